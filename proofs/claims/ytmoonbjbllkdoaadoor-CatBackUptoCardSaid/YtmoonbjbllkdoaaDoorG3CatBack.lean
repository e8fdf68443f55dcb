/-
  Facts of the abstract evaluator and of the functions that the law reaches, part 3. Conditions: none.
-/
import Derived.Shelf.Strings.BuilderX
import Derived.Shelf.RegionOpenPlain
import Derived.Lib.Strings
import Derived.Lib.Walk
import Derived.Lib.Builder
import Derived.Lib.MakeNoZero
import Derived.WalkKit
import Derived.Laws.Externs
import Derived.Laws.IdiomCopy
import Derived.Laws.PanicsMore
import Derived.Test.YtmoonbjbllkdoaaDoorG2CatBack
set_option linter.unusedVariables false
set_option linter.unusedSimpArgs false
set_option linter.unnecessarySimpa false
set_option exponentiation.threshold 200000
set_option maxRecDepth 100000
set_option linter.unusedVariables false
set_option linter.unusedSimpArgs false
namespace Go.AM
instance {p : Option Nat} : IsCell (.map p) := ⟨rfl⟩
def intV (l : List Int) : List Value := l.map fun n => .int .i64 n
theorem intV_len (l : List Int) : (intV l).length = l.length := by simp [intV]
theorem intV_snoc (l : List Int) (x : Int) : intV (l ++ [x]) = intV l ++ [.int .i64 x] := by simp [intV]
def FRS (e : TypeId) (v : Value) (l : List Int) (Lx : List (Nat × Blk)) : Prop :=
  (l = [] ∧ (v = .slice none 0 0 ∨ ∃ b off, v = sl b off 0 0) ∧ Lx = []) ∨
  (∃ b cap rest, v = sl b 0 l.length cap ∧ cap ≠ 0 ∧ l.length ≤ cap ∧ Lx = [(b, ⟨intV l ++ rest, e, .grow⟩)])
section
variable {P : Program} {R : Type} {e t : TypeId} {v : Value} {l : List Int} {Lx : List (Nat × Blk)} {H0 B0 B H : AH} {L : List (Nat × Blk)}
theorem FRS.nil : FRS e (.slice none 0 0) [] [] := .inl ⟨rfl, .inl rfl, rfl⟩
theorem FRS.cell (h : FRS e v l Lx) : IsCell v := by
  rcases h with ⟨_, rfl | ⟨b, off, rfl⟩, _⟩ | ⟨b, cap, rest, rfl, _⟩ <;> exact inferInstance
theorem FRS.len {e' : TypeId} (hU : P.underlying t = some (.slice e')) (h : FRS e v l Lx) : lenV P t v = some (i64 l.length) := by
  rcases h with ⟨rfl, rfl | ⟨b, off, rfl⟩, _⟩ | ⟨b, cap, rest, rfl, _⟩ <;> exact lenV_sl hU
theorem FRS.now {Ly : List (Nat × Blk)} (h : FRS e v l Lx) (hS : St H0 B0 B Ly H) (hsub : ∀ p ∈ Lx, p ∈ Ly) : ScN H v l.length 1 (intV l) := by
  rcases h with ⟨rfl, rfl | ⟨b, off, rfl⟩, rfl⟩ | ⟨b, cap, rest, rfl, h1, h2, rfl⟩
  · exact .inl ⟨rfl, rfl, rfl⟩
  · exact .inr ⟨b, off, 0, rfl, Nat.le_refl _, by simp [intV], .inl rfl⟩
  · refine .inr ⟨b, 0, cap, rfl, h2, by simp [intV_len], .inr ⟨_, hS.get (hsub _ (List.mem_singleton.2 rfl)), ?_⟩⟩
    unfold rdN
    rw [if_pos (by simp [intV_len]), List.drop_zero, Nat.mul_one, List.take_append_of_le_length (by simp [intV_len]), List.take_of_length_le (by simp [intV_len])]
theorem FRS.back {j : Nat} (hE : Elt P t e (.int .i64 0) 8) (h : FRS e v l Lx) (hj : j ≤ l.length) : ∃ v', slc P t v none (some (.int .i64 (j : Int))) = some v' ∧ FRS e v' (l.take j) Lx := by
  rcases h with ⟨rfl, hv, rfl⟩ | ⟨b, cap, rest, rfl, h1, h2, rfl⟩
  · have : j = 0 := by simpa using hj
    subst this
    rcases hv with rfl | ⟨b, off, rfl⟩
    · refine ⟨.slice none 0 0, ?_, .inl ⟨rfl, .inl rfl, rfl⟩⟩
      unfold slc; rw [hE.U]; simp only [intOr, Option.bind_some]
      rw [if_pos ⟨hE.I, rfl, rfl⟩]
    · refine ⟨sl b off 0 0, ?_, .inl ⟨rfl, .inr ⟨b, off, rfl⟩, rfl⟩⟩
      unfold slc sl; rw [hE.U]; simp only [intOr, Option.bind_some]
      rw [if_pos ⟨hE.I, by omega, by omega, by omega⟩]
      simp
  · have hlen : (l.take j).length = j := by rw [List.length_take]; omega
    refine ⟨sl b 0 j cap, ?_, .inr ⟨b, cap, intV (l.drop j) ++ rest, by rw [hlen], h1, by omega, ?_⟩⟩
    · unfold slc sl; rw [hE.U]; simp only [intOr, Option.bind_some]
      rw [if_pos ⟨hE.I, by omega, by omega, by omega⟩]
      simp [h1]
    · rw [← List.append_assoc]
      congr 4
      unfold intV
      rw [← List.map_append, List.take_append_drop]
theorem FRS.push {x : Int} {f : Nat → Nat → Value → AH → Option R} {Q : R → Prop} (hE : Elt P t e (.int .i64 0) 8) (h : FRS e v l Lx) (hS : St H0 B0 B (Lx ++ L) H) (hl : l.length + 1 ≤ 1000000000000)
    (hk : ∀ v' Lx' H', FRS e v' (l ++ [x]) Lx' → St H0 B0 B (Lx' ++ L) H' → Ev (fun k n => f k n v' H') Q) :
    Ev (fun k n => Go.AM.b2 (Go.AM.buildS P t H 1 [(0, .int .i64 x)]) fun w h => Go.AM.b2 (Go.AM.ap P t t h v w) (f k n)) Q := by
  have hb : Go.AM.buildS P t H 1 [(0, .int .i64 x)] = some (sl H.length 0 1 1, mkB H [.int .i64 x] e .fix) := by
    unfold Go.AM.buildS
    rw [hE.U]; simp only [hE.Z, Option.bind_some, hE.S]
    rw [if_pos ⟨by omega, rfl⟩]
    simp only [fillB, rep, List.append_nil, Nat.zero_mul]
    rw [if_pos ⟨rfl, by simp [Value.cells], rfl⟩]
    rfl
  refine Ev.prim2 hb ?_
  have hw : ScN (mkB H [.int .i64 x] e .fix) (sl H.length 0 1 1) 1 1 [.int .i64 x] := by
    refine .inr ⟨H.length, 0, 1, rfl, Nat.le_refl _, rfl, .inr ⟨_, blk_mkB_new, rfl⟩⟩
  have hES : EltS P t e [.int .i64 0] 1 8 := inferInstance
  have ha := ap_eqS (P := P) (t := t) (u := t) (s := v) hE.U hw rfl
  have hgk : gkl [Value.int .i64 0] = .grow := rfl
  rw [hgk] at ha
  have hS1 := (hS.mkB' [.int .i64 x] e .fix).drop1
  rcases h with ⟨rfl, hv, rfl⟩ | ⟨b, cap, rest, rfl, h1, h2, rfl⟩
  · refine Ev.prim2 (v := sl (mkB H [.int .i64 x] e .fix).length 0 1 2) (H := mkB (mkB H [.int .i64 x] e .fix) [.int .i64 x] e .grow) ?_ (hk _ [((mkB H [.int .i64 x] e .fix).length, ⟨[.int .i64 x], e, .grow⟩)] _ (.inr ⟨_, 2, [], rfl, by simp, by simp, rfl⟩) (hS1.mkB' _ _ _))
    rw [ha]
    rcases hv with rfl | ⟨b, off, rfl⟩
    · unfold apS
      try dsimp only
      rw [if_neg (by decide), if_pos (by decide)]
      rfl
    · unfold apS sl
      dsimp only
      rw [if_neg (by decide), if_pos rfl, if_pos (by decide)]
  · have hb1 := hS1.get (.head _)
    refine Ev.prim2 (v := sl (mkB H [.int .i64 x] e .fix).length 0 (l.length + 1) (l.length + 1 + 1)) (H := mkB (kill (mkB H [.int .i64 x] e .fix) b) (intV l ++ [.int .i64 x]) e .grow) ?_
      (hk _ [((mkB H [.int .i64 x] e .fix).length, ⟨intV (l ++ [x]), e, .grow⟩)] _ (.inr ⟨(mkB H [.int .i64 x] e .fix).length, l.length + 1 + 1, [], by rw [List.length_append]; rfl, by omega, by rw [List.length_append]; simp, by rw [List.append_nil]⟩) ?_)
    · rw [ha]
      unfold apS sl
      dsimp only
      rw [if_neg (by decide), if_neg h1, hb1, Option.bind_some]
      have hrd : rdN ⟨intV l ++ rest, e, .grow⟩ 0 (l.length * 1) = some (intV l) := by
        unfold rdN
        rw [if_pos (by simp [intV_len]), List.drop_zero, Nat.mul_one, List.take_append_of_le_length (by simp [intV_len]), List.take_of_length_le (by simp [intV_len])]
      rw [hrd, Option.bind_some, if_pos ⟨by omega, by omega, rfl⟩]
      dsimp only
      rw [if_pos rfl]
    · have := hS1.kill.mkB' (intV l ++ [.int .i64 x]) e .grow
      rw [length_kill, ← intV_snoc] at this
      rw [intV_snoc] at this
      rw [intV_snoc]
      exact this
end
structure Pgr where
  turn : Nat
  root : Int
  used : List Int
  fresh : List Int
  down : Bool
def mayR (U : List Int) (root : Int) : Bool := decide (root = 0) || decide (2 ≤ root) && decide (root ∈ U)
def Pgr.told (G : Pgr) (e : Int) : Pgr := { G with down := G.down || decide (e = 7) }
def hwrite (D : Dsk) (turn : Nat) (root : Int) (U : List Int) : Int × Dsk := D.pwrite ((turn % 2 : Nat) : Int) 1 (textH turn root U)
def Pgr.lay (G : Pgr) (D : Dsk) (root : Int) (U : List Int) : Int × Pgr × Dsk :=
  if D.barrier.1 ≠ 0 then (D.barrier.1, G.told D.barrier.1, D.barrier.2)
  else if (hwrite D.barrier.2 (G.turn + 1) root U).1 ≠ 0 then ((hwrite D.barrier.2 (G.turn + 1) root U).1, G.told (hwrite D.barrier.2 (G.turn + 1) root U).1, (hwrite D.barrier.2 (G.turn + 1) root U).2)
  else if (hwrite D.barrier.2 (G.turn + 1) root U).2.barrier.1 ≠ 0 then ((hwrite D.barrier.2 (G.turn + 1) root U).2.barrier.1, G.told (hwrite D.barrier.2 (G.turn + 1) root U).2.barrier.1, (hwrite D.barrier.2 (G.turn + 1) root U).2.barrier.2)
  else (0, ⟨G.turn + 1, root, U, [], G.down⟩, (hwrite D.barrier.2 (G.turn + 1) root U).2.barrier.2)
def Pgr.alloc (G : Pgr) (m : Nat) : Int × Int × Pgr :=
  if G.down = true then (0, 7, G) else
  match (List.range m).find? fun (n : Nat) => !decide ((n : Int) ∈ G.used) && !decide ((n : Int) ∈ G.fresh) with
  | some n => ((n : Int), 0, { G with fresh := G.fresh ++ [(n : Int)] })
  | none => (0, 6, G)
def Pgr.back (G : Pgr) (many : Int) : Pgr := { G with fresh := G.fresh.take many.toNat }
def Pgr.list (G : Pgr) (m : Nat) : List Int := ((List.range m).map fun (n : Nat) => (n : Int)).filter fun n => decide (n ∈ G.used)
def Pgr.write (G : Pgr) (D : Dsk) (n kind : Int) (t : List UInt8) : Int × Pgr × Dsk :=
  if G.down = true then (7, G, D) else if n ∉ G.fresh then (8, G, D) else ((D.pwrite n kind t).1, G.told (D.pwrite n kind t).1, (D.pwrite n kind t).2)
def Pgr.read (G : Pgr) (D : Dsk) (n : Int) : (Int × List UInt8 × Int) × Pgr :=
  if G.down = true then ((0, [], 7), G) else if n < 0 ∨ (D.n / 2 : Nat) ≤ n then ((0, [], 1), G) else (D.pread n, G.told (D.pread n).2.2)
def addAll (U : List Int) (l : List Int) : List Int := l.foldl insI U
def Pgr.commit (G : Pgr) (D : Dsk) (root : Int) : Int × Pgr × Dsk :=
  if G.down = true then (7, G, D) else if mayR (addAll G.used G.fresh) root = false then (1, G, D) else G.lay D root (addAll G.used G.fresh)
def keepOK (U : List Int) (l : List Int) : Bool := l.all fun n => decide (2 ≤ n) && decide (n ∈ U)
def Pgr.keep (G : Pgr) (D : Dsk) (root : Int) (l : List Int) : Int × Pgr × Dsk :=
  if G.down = true then (7, G, D) else if G.fresh ≠ [] then (8, G, D) else if keepOK G.used l = false then (1, G, D) else if mayR (addAll [0, 1] l) root = false then (1, G, D) else G.lay D root (addAll [0, 1] l)
def Dsk.format (D : Dsk) : Int × Dsk :=
  if D.n / 2 < 4 then (1, D) else if (hwrite D 1 0 [0, 1]).1 ≠ 0 then hwrite D 1 0 [0, 1] else (hwrite D 1 0 [0, 1]).2.barrier
structure Pgr.OK (G : Pgr) (m : Nat) : Prop where
  mm : m ≤ 512
  nd : G.used.Nodup
  us : ∀ n ∈ G.used, 0 ≤ n ∧ n < m
  fr : ∀ n ∈ G.fresh, 0 ≤ n ∧ n < m
  fl : G.fresh.length ≤ m
  tu : G.turn < 281474976710655
  ro : 0 ≤ G.root ∧ G.root < 512
theorem addAll_mem : ∀ (l U : List Int) (x : Int), x ∈ addAll U l ↔ x ∈ U ∨ x ∈ l
  | [], U, x => by simp [addAll]
  | a :: l, U, x => by
    show x ∈ addAll (insI U a) l ↔ _
    rw [addAll_mem l, insI_mem]
    simp only [List.mem_cons]
    constructor
    · rintro ((h | h) | h)
      · exact .inr (.inl h)
      · exact .inl h
      · exact .inr (.inr h)
    · rintro (h | h | h)
      · exact .inl (.inr h)
      · exact .inl (.inl h)
      · exact .inr h
theorem st_dead {H0 B0 B X : AH} {L : List (Nat × Blk)} (h : St H0 B0 B L X) : St H0 B0 B L (X ++ [none]) := by
  have h1 := (h.mkB' [] 0 .fix).kill
  have e : kill (AM.mkB X [] 0 .fix) X.length = X ++ [none] := by
    unfold AM.kill AM.mkB
    rw [List.set_append_right _ _ (Nat.le_refl _), Nat.sub_self]; rfl
  rwa [e] at h1
section
variable {R : Type} {H0 B0 B H : AH} {L L' : List (Nat × Blk)}
theorem Ev.gText {hb mb b : Nat} {t r : Value} {T tm e : TypeId} {U : List Int} {cs : List Value} {f : Nat → Nat → AH → Option R} {Q : R → Prop} (hS : St H0 B0 B L H) (h1 : (hb, ⟨[t, r, .map (some mb)], T, .fix⟩) ∈ L) (h2 : (mb, ⟨entI U, tm, .map⟩) ∈ L)
    (hu : Upd b ⟨cs ++ List.replicate 64 (.int .u8 0), e, .fix⟩ ⟨cs ++ bmV U, e, .fix⟩ L L') (h3 : (b, ⟨cs ++ List.replicate 64 (.int .u8 0), e, .fix⟩) ∈ L) (hc : cs.length = 8) (hU : ∀ n ∈ U, 0 ≤ n ∧ n < 512)
    (h : ∀ H', St H0 B0 B L' H' → Ev (fun k n => f k n H') Q) : Ev (fun k n => (gText [ptr hb 0, sl b 0 72 72] H).bind (f k n)) Q := by
  have g1 := hS.get h1
  have g2 := hS.get h2
  have g3 := hS.get h3
  have hne : mb ≠ b := by rintro rfl; rw [g2] at g3; injection g3 with g3; injection g3 with _ _ g4; cases g4
  have e1 : AM.gText [ptr hb 0, sl b 0 72 72] H = some (put H b ⟨cs ++ List.replicate 64 (.int .u8 0), e, .fix⟩ (cs ++ bmV U) ++ [none]) := by
    have e0 : AM.gText [ptr hb 0, sl b 0 72 72] H = (((blk H hb).bind fun k => k.cells[2]?).bind fun mv => (gBits [mv, sl b 0 72 72] H).map fun H' => H' ++ [none]) := rfl
    rw [e0, g1, Option.bind_some]
    show Option.bind (some (Value.map (some mb))) _ = _
    rw [Option.bind_some]
    have e2 : gBits [.map (some mb), sl b 0 72 72] H = ((mapB H mb).bind fun km => (keysI km.cells).bind fun S => (blk H b).bind fun k =>
      aChk (mb ≠ b ∧ (∀ n ∈ S, 0 ≤ n ∧ n < 512) ∧ k.kind = .fix ∧ k.cells.length = 72 ∧ k.cells.drop 8 = List.replicate 64 (.int .u8 0)) (some (put H b k (k.cells.take 8 ++ bmV S)))) := rfl
    rw [e2]
    unfold mapB
    rw [g2, Option.bind_some, if_pos rfl, Option.bind_some, keysI_ent, Option.bind_some, g3, Option.bind_some]
    unfold aChk
    rw [if_pos ⟨hne, hU, rfl, by rw [List.length_append, hc]; simp, by rw [List.drop_append_of_le_length (by omega), ← hc, List.drop_length, List.nil_append]⟩]
    rw [List.take_append_of_le_length (by omega), ← hc, List.take_length]
    rfl
  refine Ev.prim e1 (h _ ?_)
  exact st_dead (hS.put (cs := cs ++ bmV U) hu)
theorem Ev.gCommit {pb hb ma mb : Nat} {p0 p1 h0 h1 : Value} {pr : List Value} {T T' tm tm' : TypeId} {U : List Int} {f : Nat → Nat → AH → Option R} {Q : R → Prop} (hS : St H0 B0 B L H) (i1 : (pb, ⟨p0 :: p1 :: .map (some ma) :: pr, T, .fix⟩) ∈ L) (i2 : (ma, ⟨entI U, tm, .map⟩) ∈ L)
    (i3 : (hb, ⟨[h0, h1, .map (some mb)], T', .fix⟩) ∈ L) (i4 : (mb, ⟨[], tm', .map⟩) ∈ L) (hne : ma ≠ mb) (hn : U.Nodup) (hu : Upd mb ⟨[], tm', .map⟩ ⟨entI U, tm', .map⟩ L L')
    (h : ∀ H', St H0 B0 B L' H' → Ev (fun k n => f k n H') Q) : Ev (fun k n => (gCommit [ptr pb 0, ptr hb 0] H).bind (f k n)) Q := by
  have g1 := hS.get i1
  have g2 := hS.get i2
  have g3 := hS.get i3
  have g4 := hS.get i4
  have n1 : hb ≠ ma := by rintro rfl; rw [g2] at g3; injection g3 with g3; injection g3 with _ _ g4; cases g4
  have n2 : hb ≠ mb := by rintro rfl; rw [g4] at g3; injection g3 with g3; injection g3 with _ _ g4; cases g4
  have e1 : AM.gCommit [ptr pb 0, ptr hb 0] H = some (put H mb ⟨[], tm', .map⟩ (entI U) ++ [none]) := by
    have e0 : AM.gCommit [ptr pb 0, ptr hb 0] H = (((blk H pb).bind fun k => k.cells[2]?).bind fun va => ((blk H hb).bind fun k => k.cells[2]?).bind fun vb => aChk (∀ a, (va = .map (some a) ∨ vb = .map (some a)) → hb ≠ a) ((gKeys [va, vb] H).map fun H' => H' ++ [none])) := rfl
    rw [e0, g1, Option.bind_some]
    show Option.bind (some (Value.map (some ma))) _ = _
    rw [Option.bind_some, g3, Option.bind_some]
    show Option.bind (some (Value.map (some mb))) _ = _
    rw [Option.bind_some]
    unfold aChk
    rw [if_pos (by rintro a (h | h) <;> cases h <;> assumption)]
    have e2 : gKeys [.map (some ma), .map (some mb)] H = ((mapB H ma).bind fun ka => (keysI ka.cells).bind fun S => (mapB H mb).bind fun kb => aChk (ma ≠ mb ∧ kb.cells = [] ∧ S.Nodup) (some (put H mb kb (entI S)))) := rfl
    rw [e2]
    unfold mapB
    rw [g2, Option.bind_some, if_pos rfl, Option.bind_some, keysI_ent, Option.bind_some, g4, Option.bind_some, if_pos rfl, Option.bind_some]
    unfold aChk
    rw [if_pos ⟨hne, rfl, hn⟩]
    rfl
  refine Ev.prim e1 (h _ ?_)
  exact st_dead (hS.put (cs := entI U) hu)
end
end Go.AM
set_option linter.unusedVariables false
set_option linter.unusedSimpArgs false
namespace Go.AM
section
variable {P : Program} {t : TypeId}
theorem shl8 {a : Nat} {k' : IntKind} (h : a < 36028797018963968) : bin P .shl t (i64 a) (.int k' 8) = some (i64 (a * 256)) := by
  rw [bin_shl (by omega), show min (8 : Int).toNat IntKind.i64.bits = 8 from rfl, show (2 : Int) ^ 8 = 256 from rfl]
  congr 2
  rw [wrap64 (by omega)]
  omega
theorem or8 {a b : Nat} (ha : a < 36028797018963968) (hb : b < 256) : bin P .or t (i64 (a * 256)) (i64 b) = some (i64 (a * 256 + b)) := by
  rw [bin_or]
  congr 2
  rw [BitVec.toNat_or]
  have e1 : (BitVec.ofInt IntKind.i64.bits ((a * 256 : Nat) : Int)).toNat = a * 256 := by
    show (BitVec.ofInt 64 _).toNat = _
    rw [BitVec.toNat_ofInt]; omega
  have e2 : (BitVec.ofInt IntKind.i64.bits (b : Int)).toNat = b := by
    show (BitVec.ofInt 64 _).toNat = _
    rw [BitVec.toNat_ofInt]; omega
  rw [e1, e2]
  have e3 : a * 256 ||| b = a * 256 + b := by
    have := Nat.two_pow_add_eq_or_of_lt (i := 8) (b := b) (by omega) a
    rw [show 2 ^ 8 * a = a * 256 by omega] at this
    exact this.symm
  rw [e3, wrap64 (by omega)]
end
def beT (s : List UInt8) (i : Nat) : Nat := (s.take i).foldl (fun t (b : UInt8) => t * 256 + b.toNat) 0
theorem beT_succ {s : List UInt8} {i : Nat} (h : i < s.length) : beT s (i + 1) = beT s i * 256 + (s.getD i 0).toNat := by
  unfold beT
  rw [List.take_add_one, List.getElem?_eq_getElem h, List.foldl_append]
  simp [List.getD, List.getElem?_eq_getElem h]
theorem beT_lt (s : List UInt8) : ∀ i, i ≤ s.length → beT s i < 256 ^ i
  | 0, _ => by simp [beT]
  | i + 1, h => by
    have ih := beT_lt s i (by omega)
    rw [beT_succ (by omega), Nat.pow_succ]
    have := (s.getD i 0).toNat_lt
    omega
end Go.AM
set_option linter.unusedVariables false
set_option linter.unusedSimpArgs false
namespace Go.AM
def Dsk.pg (D : Dsk) (n : Nat) : List UInt8 := D.look (2 * n) ++ D.look (2 * n + 1)
theorem Dsk.Up.hwrite {D : Dsk} {m t r : Nat} {U : List Int} (h : D.Up (2 * m)) (hm : 2 ≤ m) (hm2 : m ≤ 512) : ∃ D', hwrite D t (r : Int) U = (0, D') ∧ D'.Up (2 * m) ∧ D'.cache.length = D.cache.length + 2 ∧ ∀ n, D'.pg n = if n = t % 2 then sealL 1 (textH t (r : Int) U) else D.pg n := by
  have hl : (textH t (r : Int) U).length ≤ 120 := by rw [textH_len]; decide
  have h2 : t % 2 < m := by omega
  refine ⟨_, h.pwrite (n := t % 2) (k := 1) h2 (by omega) (by decide) (by decide) hl, h.pput h2 hl, ?_, fun n => ?_⟩
  · show ((D.cache ++ [_]) ++ [_]).length = _
    simp
  · unfold Dsk.pg
    rw [look_put, look_put, look_put, look_put]
    by_cases hn : n = t % 2
    · rw [if_pos hn, if_neg (by omega), if_pos (by omega), if_pos (by omega), List.take_append_drop]
    · rw [if_neg hn, if_neg (by omega), if_neg (by omega), if_neg (by omega), if_neg (by omega)]
theorem Dsk.Up.write2 {D : Dsk} {m n k : Nat} {t : List UInt8} (h : D.Up (2 * m)) (hn : n < m) (hm2 : m ≤ 512) (hk : 1 ≤ k) (hk9 : k ≤ 9) (ht : t.length ≤ 120) : ∃ D', D.pwrite (n : Int) (k : Int) t = (0, D') ∧ D'.Up (2 * m) ∧ D'.cache.length = D.cache.length + 2 ∧ ∀ i, D'.pg i = if i = n then sealL k t else D.pg i := by
  refine ⟨_, h.pwrite (n := n) (k := k) hn (by omega) hk hk9 ht, h.pput hn ht, ?_, fun i => ?_⟩
  · show ((D.cache ++ [_]) ++ [_]).length = _
    simp
  · unfold Dsk.pg
    rw [look_put, look_put, look_put, look_put]
    by_cases hi : i = n
    · rw [if_pos hi, if_neg (by omega), if_pos (by omega), if_pos (by omega), List.take_append_drop]
    · rw [if_neg hi, if_neg (by omega), if_neg (by omega), if_neg (by omega), if_neg (by omega)]
theorem Dsk.Up.barrier2 {D : Dsk} {m : Nat} (h : D.Up (2 * m)) : ∃ D', D.barrier = (0, D') ∧ D'.Up (2 * m) ∧ D'.cache = [] ∧ ∀ n, n < m → D'.pg n = D.pg n := by
  refine ⟨_, h.barrier, h.flush, rfl, fun n hn => ?_⟩
  unfold Dsk.pg
  rw [look_flush h.ok (by rw [h.n]; omega), look_flush h.ok (by rw [h.n]; omega)]
theorem Dsk.Up.lay {D : Dsk} {G : Pgr} {m r : Nat} {U : List Int} (h : D.Up (2 * m)) (hm : 2 ≤ m) (hm2 : m ≤ 512) : ∃ D', G.lay D (r : Int) U = (0, ⟨G.turn + 1, (r : Int), U, [], G.down⟩, D') ∧ D'.Up (2 * m) ∧ D'.cache = [] ∧ ∀ n, n < m → D'.pg n = if n = (G.turn + 1) % 2 then sealL 1 (textH (G.turn + 1) (r : Int) U) else D.pg n := by
  obtain ⟨D1, e1, u1, c1, p1⟩ := h.barrier2
  obtain ⟨D2, e2, u2, c2, p2⟩ := u1.hwrite (t := G.turn + 1) (r := r) (U := U) hm hm2
  obtain ⟨D3, e3, u3, c3, p3⟩ := u2.barrier2
  refine ⟨D3, ?_, u3, c3, fun n hn => ?_⟩
  · unfold Pgr.lay
    rw [e1]
    dsimp only
    rw [e2]
    dsimp only
    rw [e3, if_neg (by simp), if_neg (by simp), if_neg (by simp)]
  · rw [p3 n hn, p2 n]
    by_cases h2 : n = (G.turn + 1) % 2
    · rw [if_pos h2, if_pos h2]
    · rw [if_neg h2, if_neg h2, p1 n hn]
theorem Dsk.Up.format {D : Dsk} {m : Nat} (h : D.Up (2 * m)) (hm : 4 ≤ m) (hm2 : m ≤ 512) : ∃ D', D.format = (0, D') ∧ D'.Up (2 * m) ∧ D'.cache = [] ∧ ∀ n, n < m → D'.pg n = if n = 1 then sealL 1 (textH 1 0 [0, 1]) else D.pg n := by
  obtain ⟨D2, e2, u2, c2, p2⟩ := h.hwrite (t := 1) (r := 0) (U := [0, 1]) (by omega) hm2
  obtain ⟨D3, e3, u3, c3, p3⟩ := u2.barrier2
  refine ⟨D3, ?_, u3, c3, fun n hn => ?_⟩
  · unfold Dsk.format
    have hn := h.n
    rw [show ((0 : Nat) : Int) = 0 from rfl] at e2
    rw [if_neg (by omega), e2]
    dsimp only
    rw [if_neg (by simp), e3]
  · rw [p3 n hn, p2 n]
    rfl
def pagesI (m : Nat) : List Int := (List.range m).map fun (n : Nat) => (n : Int)
/-- The first ones that are handed out. -/
def frs (j : Nat) : List Int := (List.range j).map fun (n : Nat) => ((n + 2 : Nat) : Int)
theorem frs_succ (j : Nat) : frs (j + 1) = frs j ++ [((j + 2 : Nat) : Int)] := by
  unfold frs
  rw [List.range_succ, List.map_append]; rfl
theorem frs_len (j : Nat) : (frs j).length = j := by simp [frs]
theorem frs_mem {j : Nat} {x : Int} : x ∈ frs j ↔ 2 ≤ x ∧ x < j + 2 := by
  unfold frs
  constructor
  · intro h
    obtain ⟨i, hi, rfl⟩ := List.mem_map.1 h
    have := List.mem_range.1 hi
    omega
  · intro h
    exact List.mem_map.2 ⟨(x - 2).toNat, List.mem_range.2 (by omega), by omega⟩
theorem frs_take {i j : Nat} (h : i ≤ j) : (frs j).take i = frs i := by
  unfold frs
  rw [← List.map_take, List.take_range, Nat.min_eq_left h]
theorem alloc_frs {G : Pgr} {j m : Nat} (hd : G.down = false) (hu : G.used = [0, 1]) (hf : G.fresh = frs j) (hj : j + 2 < m) : G.alloc m = (((j + 2 : Nat) : Int), 0, { G with fresh := frs (j + 1) }) := by
  unfold Pgr.alloc
  rw [if_neg (by rw [hd]; decide), hu, hf]
  have e : (List.range m).find? (fun (n : Nat) => !decide ((n : Int) ∈ ([0, 1] : List Int)) && !decide ((n : Int) ∈ frs j)) = some (j + 2) := by
    rw [List.find?_range_eq_some]
    refine ⟨?_, List.mem_range.2 hj, fun i hi => ?_⟩
    · simp only [frs_mem]
      simp
      omega
    · simp only [frs_mem]
      simp
      omega
  rw [e]
  dsimp only
  rw [frs_succ]
theorem alloc_full {G : Pgr} {j m : Nat} (hd : G.down = false) (hu : G.used = [0, 1]) (hf : G.fresh = frs j) (hj : m ≤ j + 2) : G.alloc m = (0, 6, G) := by
  unfold Pgr.alloc
  rw [if_neg (by rw [hd]; decide)]
  have e : (List.range m).find? (fun (n : Nat) => !decide ((n : Int) ∈ G.used) && !decide ((n : Int) ∈ G.fresh)) = none := by
    rw [List.find?_eq_none]
    intro n hn
    have := List.mem_range.1 hn
    rw [hu, hf]
    simp only [frs_mem]
    simp
    omega
  rw [e]
/-- How many are left. -/
def Pgr.left (G : Pgr) (m : Nat) : Nat := ((pagesI m).filter fun x => !decide (x ∈ G.used) && !decide (x ∈ G.fresh)).length
theorem told0 {G : Pgr} : G.told 0 = G := by
  unfold Pgr.told
  cases G
  simp
theorem Dsk.Up.gwrite {D : Dsk} {G : Pgr} {m n k : Nat} {t : List UInt8} (h : D.Up (2 * m)) (hd : G.down = false) (hn : n < m) (hf : (n : Int) ∈ G.fresh) (hm2 : m ≤ 512) (hk : 1 ≤ k) (hk9 : k ≤ 9) (ht : t.length ≤ 120) :
    ∃ D', G.write D (n : Int) (k : Int) t = (0, G, D') ∧ D'.Up (2 * m) ∧ D'.cache.length = D.cache.length + 2 ∧ ∀ i, D'.pg i = if i = n then sealL k t else D.pg i := by
  obtain ⟨D', e, u, c, p⟩ := h.write2 (n := n) (k := k) hn hm2 hk hk9 ht
  refine ⟨D', ?_, u, c, p⟩
  unfold Pgr.write
  rw [if_neg (by rw [hd]; decide), if_neg (by simpa using hf), e]
  dsimp only
  rw [told0]
theorem Dsk.Up.gcommit {D : Dsk} {G : Pgr} {m r : Nat} (h : D.Up (2 * m)) (hd : G.down = false) (hm : 2 ≤ m) (hm2 : m ≤ 512) (hr : mayR (addAll G.used G.fresh) (r : Int) = true) :
    ∃ D', G.commit D (r : Int) = (0, ⟨G.turn + 1, (r : Int), addAll G.used G.fresh, [], false⟩, D') ∧ D'.Up (2 * m) ∧ D'.cache = [] ∧ ∀ n, n < m → D'.pg n = if n = (G.turn + 1) % 2 then sealL 1 (textH (G.turn + 1) (r : Int) (addAll G.used G.fresh)) else D.pg n := by
  obtain ⟨D', e, u, c, p⟩ := h.lay (G := G) (r := r) (U := addAll G.used G.fresh) hm hm2
  refine ⟨D', ?_, u, c, p⟩
  unfold Pgr.commit
  rw [if_neg (by rw [hd]; decide), if_neg (by rw [hr]; decide), e, hd]
end Go.AM
set_option linter.unusedVariables false
set_option linter.unusedSimpArgs false
namespace Go.AM
def need (n : Nat) : Nat := if min n 1048576 = 0 then 1 else (min n 1048576 + 117) / 118
theorem need_pos (n : Nat) : 1 ≤ need n := by
  unfold need
  split
  · exact Nat.le_refl 1
  · omega
def pagesL (j k : Nat) : List Int := (List.range k).map fun (i : Nat) => ((j + 2 + i : Nat) : Int)
theorem pagesL_len (j k : Nat) : (pagesL j k).length = k := by simp [pagesL]
theorem pagesL_succ (j k : Nat) : pagesL j (k + 1) = pagesL j k ++ [((j + 2 + k : Nat) : Int)] := by
  unfold pagesL
  rw [List.range_succ, List.map_append]; rfl
theorem pagesL_mem {j k : Nat} {x : Int} : x ∈ pagesL j k ↔ (j : Int) + 2 ≤ x ∧ x < j + 2 + k := by
  unfold pagesL
  constructor
  · intro h
    obtain ⟨i, hi, rfl⟩ := List.mem_map.1 h
    have := List.mem_range.1 hi
    omega
  · intro h
    exact List.mem_map.2 ⟨(x - j - 2).toNat, List.mem_range.2 (by omega), by omega⟩
theorem pagesL_at {j k i : Nat} (h : i < k) : (pagesL j k)[i]? = some ((j + 2 + i : Nat) : Int) := by
  unfold pagesL
  rw [List.getElem?_map, List.getElem?_range h]; rfl
def nextB (j k i : Nat) : Nat := if i + 1 < k then j + 2 + (i + 1) else 0
def pieceT (s : List UInt8) (i : Nat) : List UInt8 := (s.drop (118 * i)).take 118
def hdr (n : Nat) : List UInt8 := [UInt8.ofNat (n / 256), UInt8.ofNat n]
def bpage (s : List UInt8) (j k i : Nat) : List UInt8 := hdr (nextB j k i) ++ pieceT s i
theorem bpage_len (s : List UInt8) (j k i : Nat) : (bpage s j k i).length ≤ 120 := by
  unfold bpage pieceT hdr
  simp; omega
/-- A text stands in a disk's pages, from j + 2 on. -/
def Dsk.Has (D : Dsk) (s : List UInt8) (j k : Nat) : Prop := ∀ i, i < k → D.pg (j + 2 + i) = sealL 2 (bpage s j k i)
theorem Dsk.Up.gread {D : Dsk} {G : Pgr} {m n k : Nat} {t : List UInt8} (h : D.Up (2 * m)) (hd : G.down = false) (hn : n < m) (hm2 : m ≤ 512) (hk : 1 ≤ k) (hk9 : k ≤ 9) (ht : t.length ≤ 120) (hp : D.pg n = sealL k t) : G.read D (n : Int) = (((k : Int), t, 0), G) := by
  have hdn : D.n / 2 = m := by have := h.n; omega
  have e2 : D.pread (n : Int) = ((k : Int), t, 0) := by
    rw [h.pread hn (by omega)]
    show openR (D.pg n) = _
    rw [hp]
    exact open_seal hk hk9 ht
  unfold Pgr.read
  rw [if_neg (by rw [hd]; decide), hdn, if_neg (by omega), e2]
  dsimp only
  rw [told0]
theorem drop_piece (s : List UInt8) (i : Nat) : (s.drop (118 * i)).drop (min (s.drop (118 * i)).length 118) = s.drop (118 * (i + 1)) := by
  rw [List.drop_drop]
  rcases Nat.le_total (s.drop (118 * i)).length 118 with h | h
  · rw [Nat.min_eq_left h]
    rw [List.length_drop] at h ⊢
    rw [List.drop_of_length_le (by omega), List.drop_of_length_le (by omega)]
  · rw [Nat.min_eq_right h]
    congr 1
theorem take_piece (s : List UInt8) (i : Nat) : (s.drop (118 * i)).take (min (s.drop (118 * i)).length 118) = pieceT s i := by
  unfold pieceT
  rcases Nat.le_total (s.drop (118 * i)).length 118 with h | h
  · rw [Nat.min_eq_left h, List.take_length, List.take_of_length_le h]
  · rw [Nat.min_eq_right h]
theorem piece_join (s : List UInt8) (a i : Nat) : (s.drop (118 * a)).take (118 * i) ++ pieceT s (a + i) = (s.drop (118 * a)).take (118 * (i + 1)) := by
  unfold pieceT
  rw [show 118 * (a + i) = 118 * a + 118 * i by omega, ← List.drop_drop, show 118 * (i + 1) = 118 * i + 118 by omega, List.take_add]
theorem hdr_val (n : Nat) (h : n < 65536) : (UInt8.ofNat (n / 256)).toNat * 256 + (UInt8.ofNat n).toNat = n := by
  simp only [UInt8.toNat_ofNat']
  omega
theorem perm1 {α : Type} (A : List α) (x : α) (B R : List α) : (A ++ (x :: (B ++ R))).Perm (B ++ (x :: (A ++ R))) := by
  have h1 : (A ++ (x :: (B ++ R))).Perm (x :: (A ++ (B ++ R))) := List.perm_middle
  have h2 : (B ++ (x :: (A ++ R))).Perm (x :: (B ++ (A ++ R))) := List.perm_middle
  refine h1.trans ((List.Perm.cons x ?_).trans h2.symm)
  rw [← List.append_assoc, ← List.append_assoc]
  exact List.Perm.append_right _ List.perm_append_comm
theorem perm2 {α : Type} (A : List α) (x : α) (B C R : List α) : (A ++ (x :: (B ++ (C ++ R)))).Perm (C ++ (A ++ (x :: (B ++ R)))) := by
  have e1 : A ++ (x :: (B ++ (C ++ R))) = (A ++ (x :: B)) ++ (C ++ R) := by simp
  have e2 : A ++ (x :: (B ++ R)) = (A ++ (x :: B)) ++ R := by simp
  rw [e1, e2, ← List.append_assoc, ← List.append_assoc C]
  exact List.Perm.append_right _ List.perm_append_comm
theorem FRS.freeze {e : TypeId} {v : Value} {l : List Int} {Lx L : List (Nat × Blk)} {H0 B0 B H : AH} {n : Nat} (hn : l.length = n) (h : FRS e v l Lx) (hS : St H0 B0 B (Lx ++ L) H) : ∃ B', MoC B B' ∧ ScN B' v n 1 (intV l) ∧ St H0 B0 B' L H := by
  subst hn
  rcases h with ⟨rfl, hv, rfl⟩ | ⟨b, cap, rest, rfl, h1, h2, rfl⟩
  · refine ⟨B, ⟨Mo.refl B⟩, ?_, hS⟩
    rcases hv with rfl | ⟨b, off, rfl⟩
    · exact .inl ⟨rfl, rfl, rfl⟩
    · exact .inr ⟨b, off, 0, rfl, Nat.le_refl _, by simp [intV], .inl rfl⟩
  · obtain ⟨B', q1, q2, q3⟩ := St.freeze hS
    refine ⟨B', ⟨q1⟩, .inr ⟨b, 0, cap, rfl, h2, by simp [intV_len], .inr ⟨_, q2, ?_⟩⟩, q3⟩
    unfold rdN
    rw [if_pos (by simp [intV_len]), List.drop_zero, Nat.mul_one, List.take_append_of_le_length (by simp [intV_len]), List.take_of_length_le (by simp [intV_len])]
theorem perm3 {α : Type} (x y z : α) (A R : List α) : (A ++ (z :: x :: y :: R)).Perm (x :: y :: z :: (A ++ R)) := by
  have h1 : (A ++ ([z, x, y] ++ R)).Perm ([z, x, y] ++ (A ++ R)) := by
    rw [← List.append_assoc, ← List.append_assoc]
    exact List.Perm.append_right _ List.perm_append_comm
  refine List.Perm.trans h1 ?_
  exact (List.Perm.swap _ _ _).trans (List.Perm.cons _ (List.Perm.swap _ _ _))
theorem permB4 {α : Type} (x y z : α) (A R : List α) : (z :: x :: y :: (A ++ R)).Perm (A ++ (x :: y :: z :: R)) := by
  have h1 : ([x, y, z] ++ (A ++ R)).Perm (A ++ ([x, y, z] ++ R)) := by
    rw [← List.append_assoc, ← List.append_assoc]
    exact List.Perm.append_right _ List.perm_append_comm
  refine List.Perm.trans ?_ h1
  exact (List.Perm.swap _ _ _).trans (List.Perm.cons _ (List.Perm.swap _ _ _))
end Go.AM
set_option linter.unusedVariables false
set_option linter.unusedSimpArgs false
namespace Go.AM
abbrev Vers := List (Int × Int)
def be : Nat → Nat → List UInt8
  | 0, _ => []
  | k + 1, n => UInt8.ofNat (n / 256 ^ k) :: be k n
theorem be_len : ∀ k n, (be k n).length = k
  | 0, _ => rfl
  | k + 1, n => by simp [be, be_len k n]
def rootV (n : Int) : Bool := decide (n = 0) || (decide (2 ≤ n) && decide (n ≤ 511))
def rightV (next : Int) : Int → Vers → Bool
  | _, [] => true
  | last, v :: r => decide (last < v.1) && decide (v.1 < next) && rootV v.2 && rightV next v.1 r
def rightC (next : Int) (l : Vers) : Bool := decide (1 ≤ next) && decide (next ≤ 16777216) && decide (l.length ≤ 12) && rightV next 0 l
def encV : Vers → List UInt8
  | [] => []
  | v :: r => be 4 v.1.toNat ++ (be 2 v.2.toNat ++ encV r)
def encC (next : Int) (l : Vers) : List UInt8 := be 4 next.toNat ++ encV l
def getN (s : List UInt8) : Nat := s.foldl (fun t (b : UInt8) => t * 256 + b.toNat) 0
def decV : Nat → List UInt8 → Vers
  | 0, _ => []
  | k + 1, s => (((getN (s.take 4) : Nat) : Int), ((getN ((s.drop 4).take 2) : Nat) : Int)) :: decV k (s.drop 6)
def decC (s : List UInt8) : Option (Int × Vers) :=
  if s.length < 4 ∨ (s.length - 4) % 6 ≠ 0 then none
  else if rightC ((getN (s.take 4) : Nat) : Int) (decV ((s.length - 4) / 6) (s.drop 4)) = true then some (((getN (s.take 4) : Nat) : Int), decV ((s.length - 4) / 6) (s.drop 4)) else none
theorem encV_len : ∀ l, (encV l).length = 6 * l.length
  | [] => rfl
  | v :: r => by simp only [encV, List.length_append, be_len, encV_len r, List.length_cons]; omega
theorem get2 (a b : UInt8) : getN [a, b] = a.toNat * 256 + b.toNat := by simp [getN]
theorem get4 (a b c d : UInt8) : getN [a, b, c, d] = ((a.toNat * 256 + b.toNat) * 256 + c.toNat) * 256 + d.toNat := by simp [getN]
theorem get_be4 {n : Nat} (h : n < 4294967296) : getN (be 4 n) = n := by
  show getN [UInt8.ofNat (n / 256 ^ 3), UInt8.ofNat (n / 256 ^ 2), UInt8.ofNat (n / 256 ^ 1), UInt8.ofNat (n / 256 ^ 0)] = n
  rw [get4]
  simp only [UInt8.toNat_ofNat']
  omega
theorem get_be2 {n : Nat} (h : n < 65536) : getN (be 2 n) = n := by
  show getN [UInt8.ofNat (n / 256 ^ 1), UInt8.ofNat (n / 256 ^ 0)] = n
  rw [get2]
  simp only [UInt8.toNat_ofNat']
  omega
theorem u8_of {a : UInt8} {n : Nat} (h : n % 256 = a.toNat) : UInt8.ofNat n = a := by
  apply UInt8.toNat_inj.1
  rw [UInt8.toNat_ofNat']
  exact h
theorem be_get4 {s : List UInt8} (h : s.length = 4) : be 4 (getN s) = s := by
  match s, h with
  | [a, b, c, d], _ =>
    have ha := a.toNat_lt; have hb := b.toNat_lt; have hc := c.toNat_lt; have hd := d.toNat_lt
    rw [get4]
    show [UInt8.ofNat (_ / 256 ^ 3), UInt8.ofNat (_ / 256 ^ 2), UInt8.ofNat (_ / 256 ^ 1), UInt8.ofNat (_ / 256 ^ 0)] = _
    rw [u8_of (a := a) (by omega), u8_of (a := b) (by omega), u8_of (a := c) (by omega), u8_of (a := d) (by omega)]
theorem be_get2 {s : List UInt8} (h : s.length = 2) : be 2 (getN s) = s := by
  match s, h with
  | [a, b], _ =>
    have ha := a.toNat_lt; have hb := b.toNat_lt
    rw [get2]
    show [UInt8.ofNat (_ / 256 ^ 1), UInt8.ofNat (_ / 256 ^ 0)] = _
    rw [u8_of (a := a) (by omega), u8_of (a := b) (by omega)]
theorem encV_decV : ∀ (k : Nat) (s : List UInt8), s.length = 6 * k → encV (decV k s) = s
  | 0, s, h => by
    have : s = [] := List.length_eq_zero_iff.1 (by omega)
    subst this; rfl
  | k + 1, s, h => by
    show be 4 (((getN (s.take 4) : Nat) : Int)).toNat ++ (be 2 (((getN ((s.drop 4).take 2) : Nat) : Int)).toNat ++ encV (decV k (s.drop 6))) = s
    rw [Int.toNat_natCast, Int.toNat_natCast, be_get4 (by rw [List.length_take]; omega), be_get2 (by rw [List.length_take, List.length_drop]; omega), encV_decV k _ (by rw [List.length_drop]; omega)]
    rw [show s.drop 6 = (s.drop 4).drop 2 by rw [List.drop_drop], List.take_append_drop, List.take_append_drop]
theorem decV_encV : ∀ (l : Vers), (∀ v ∈ l, 0 ≤ v.1 ∧ v.1 < 4294967296 ∧ 0 ≤ v.2 ∧ v.2 < 65536) → decV l.length (encV l) = l
  | [], _ => rfl
  | v :: r, h => by
    have hv := h v (.head _)
    have h1 : (encV (v :: r)).take 4 = be 4 v.1.toNat := List.take_left' (be_len _ _)
    have h2 : (encV (v :: r)).drop 4 = be 2 v.2.toNat ++ encV r := List.drop_left' (be_len _ _)
    have h3 : (encV (v :: r)).drop 6 = encV r := by
      rw [show (6 : Nat) = 4 + 2 from rfl, ← List.drop_drop, h2]
      exact List.drop_left' (be_len _ _)
    show (((getN ((encV (v :: r)).take 4) : Nat) : Int), ((getN (((encV (v :: r)).drop 4).take 2) : Nat) : Int)) :: decV r.length ((encV (v :: r)).drop 6) = _
    rw [h1, h2, h3, List.take_left' (be_len _ _), get_be4 (by omega), get_be2 (by omega), decV_encV r fun w hw => h w (.tail _ hw)]
    rw [show ((v.1.toNat : Nat) : Int) = v.1 by omega, show ((v.2.toNat : Nat) : Int) = v.2 by omega]
theorem rightV_mem {next : Int} : ∀ (l : Vers) (last : Int), 0 ≤ last → rightV next last l = true → ∀ v ∈ l, 0 ≤ v.1 ∧ v.1 < next ∧ 0 ≤ v.2 ∧ v.2 < 512
  | [], _, _, _, v, hv => (List.not_mem_nil hv).elim
  | w :: r, last, hl, h, v, hv => by
    simp only [rightV, rootV, Bool.and_eq_true, Bool.or_eq_true, decide_eq_true_eq] at h
    obtain ⟨⟨⟨h1, h2⟩, h3⟩, h4⟩ := h
    rcases List.mem_cons.1 hv with rfl | hv
    · omega
    · exact rightV_mem r w.1 (by omega) h4 v hv
theorem decC_encC {next : Int} {l : Vers} (h : rightC next l = true) : decC (encC next l) = some (next, l) := by
  have h0 := h
  simp only [rightC, Bool.and_eq_true, decide_eq_true_eq] at h0
  obtain ⟨⟨⟨h1, h2⟩, h3⟩, h4⟩ := h0
  have hm := rightV_mem l 0 (by omega) h4
  have e1 : (encC next l).take 4 = be 4 next.toNat := List.take_left' (be_len _ _)
  have e2 : (encC next l).drop 4 = encV l := List.drop_left' (be_len _ _)
  have e3 : (encC next l).length = 4 + 6 * l.length := by unfold encC; rw [List.length_append, be_len, encV_len]
  unfold decC
  rw [e1, e2, e3, if_neg (by omega), show (4 + 6 * l.length - 4) / 6 = l.length by omega, get_be4 (by omega), decV_encV l fun v hv => by have := hm v hv; omega, show ((next.toNat : Nat) : Int) = next by omega, if_pos h]
theorem decC_some {s : List UInt8} {next : Int} {l : Vers} (h : decC s = some (next, l)) : rightC next l = true ∧ encC next l = s := by
  unfold decC at h
  split at h
  · cases h
  · rename_i hn
    split at h
    · rename_i hr
      cases h
      refine ⟨hr, ?_⟩
      unfold encC
      rw [Int.toNat_natCast, be_get4 (by rw [List.length_take]; omega), encV_decV _ _ (by rw [List.length_drop]; omega), List.take_append_drop]
    · cases h
theorem encC_len {next : Int} {l : Vers} (h : rightC next l = true) : (encC next l).length ≤ 76 := by
  simp only [rightC, Bool.and_eq_true, decide_eq_true_eq] at h
  unfold encC
  rw [List.length_append, be_len, encV_len]
  omega
def verC (l : Vers) : List Value := l.flatMap fun p => [.int .i64 p.1, .int .i64 p.2]
theorem verC_len (l : Vers) : (verC l).length = l.length * 2 := by
  unfold verC
  induction l with
  | nil => rfl
  | cons p l ih => simp only [List.flatMap_cons, List.length_append, List.length_cons, List.length_nil] at ih ⊢; omega
theorem verC_at {l : Vers} {i : Nat} {v : Int × Int} (h : l[i]? = some v) : ((verC l).drop (i * 2)).take 2 = [.int .i64 v.1, .int .i64 v.2] := by
  induction l generalizing i with
  | nil => simp at h
  | cons p l ih =>
    cases i with
    | zero => simp at h; subst h; rfl
    | succ i =>
      have : ((verC (p :: l)).drop ((i + 1) * 2)) = (verC l).drop (i * 2) := by
        rw [show (i + 1) * 2 = 2 + i * 2 by omega, ← List.drop_drop]
        rfl
      rw [this]
      exact ih (by simpa using h)
theorem verC_snoc (l : Vers) (v : Int × Int) : verC (l ++ [v]) = verC l ++ [.int .i64 v.1, .int .i64 v.2] := by
  unfold verC; simp
theorem verC_take (l : Vers) (k : Nat) : (verC l).take (k * 2) = verC (l.take k) := by
  induction l generalizing k with
  | nil => simp [verC]
  | cons p l ih =>
    cases k with
    | zero => simp [verC]
    | succ k =>
      rw [show (k + 1) * 2 = k * 2 + 2 by omega]
      show (Value.int .i64 p.1 :: Value.int .i64 p.2 :: verC l).take (k * 2 + 2) = Value.int .i64 p.1 :: Value.int .i64 p.2 :: verC (l.take k)
      rw [List.take_succ_cons, List.take_succ_cons, ih]
theorem verC_cell (l : Vers) : (verC l).all isCell = true := by
  rw [List.all_eq_true]
  intro x hx
  unfold verC at hx
  obtain ⟨p, _, hx⟩ := List.mem_flatMap.1 hx
  simp at hx
  rcases hx with rfl | rfl <;> rfl
/-- Numbers of so many bytes each. -/
def pairC (l : List (Nat × Int)) : List Value := l.flatMap fun p => [i64 p.1, .int .i64 p.2]
def encP (l : List (Nat × Int)) : List UInt8 := l.flatMap fun p => be p.1 p.2.toNat
theorem pairC_at {l : List (Nat × Int)} {i : Nat} {v : Nat × Int} (h : l[i]? = some v) : (pairC l)[2 * i]? = some (i64 v.1) ∧ (pairC l)[2 * i + 1]? = some (.int .i64 v.2) := by
  induction l generalizing i with
  | nil => simp at h
  | cons p l ih =>
    cases i with
    | zero => simp at h; subst h; exact ⟨rfl, rfl⟩
    | succ i =>
      have := ih (i := i) (by simpa using h)
      rw [show 2 * (i + 1) = 2 * i + 1 + 1 by omega]
      exact this
def pairsV (l : Vers) : List (Nat × Int) := l.flatMap fun v => [(4, v.1), (2, v.2)]
theorem encP_pairs (next : Int) (l : Vers) : encP ((4, next) :: pairsV l) = encC next l := by
  show be 4 next.toNat ++ encP (pairsV l) = be 4 next.toNat ++ encV l
  congr 1
  induction l with
  | nil => rfl
  | cons v r ih =>
    show be 4 v.1.toNat ++ (be 2 v.2.toNat ++ encP (pairsV r)) = _
    rw [ih]; rfl
theorem getN_succ {s : List UInt8} {i : Nat} (h : i < s.length) : getN (s.take (i + 1)) = getN (s.take i) * 256 + (s.getD i 0).toNat := beT_succ h
theorem getN_lt {s : List UInt8} {i : Nat} (h : i ≤ s.length) : getN (s.take i) < 256 ^ i := beT_lt s i h
theorem be_succ (k n : Nat) : be (k + 1) n = UInt8.ofNat (n / 256 ^ k) :: be k n := rfl
end Go.AM
set_option linter.unusedVariables false
set_option linter.unusedSimpArgs false
namespace Go.AM
variable {P : Program} {R α : Type} {f : α → Value} {t e : TypeId} {z : Value} {sz : Nat}
variable {B B0 H0 H : AH} {v w : Value} {ks l : List α} {X La Lb : List (Nat × Blk)} {g : Nat → Nat → Value → AH → Option R} {Q : R → Prop}
theorem permA (X La Lb : List (Nat × Blk)) : (La ++ (X ++ Lb)).Perm (X ++ (La ++ Lb)) := by
  rw [← List.append_assoc, ← List.append_assoc]
  exact List.Perm.append_right _ List.perm_append_comm
end Go.AM
set_option linter.unusedVariables false
set_option linter.unusedSimpArgs false
set_option maxRecDepth 100000
namespace Go.AM.C
open Go Go.AM Go.Proofs
attribute [local irreducible] run bin un ld st box newV mkS fldA fld ixA ix slc slc3 build buildS cv cvS ap cpy lenV gOp pickV b2 aIf aChk evalK resume iterD Option.bind

section
variable {B B0 H0 H : AH} {L : List (Nat × Blk)}
theorem croot_spec {n : Int} : Ev (fun k _ => rn k 29 [.int .i64 n] H) (fun r => r = (.bool (rootV n), H)) := by
  refine Ev.fn (fun k => f29_eq k _ H) ?_
  unfold rootV
  repeat (first | refine Ev.s ?_ | refine Ev.newC fun _ _ _ => ?_ | refine Ev.boxC fun _ _ _ => ?_ | refine Ev.stC fun _ _ => ?_ | refine Ev.sc (by omega) ?_ | refine Ev.scg (by omega) ?_)
  by_cases h0 : n = 0
  · rw [decide_eq_true h0]
    repeat (first | (first | refine Ev.s ?_ | refine Ev.newC fun _ _ _ => ?_ | refine Ev.boxC fun _ _ _ => ?_ | refine Ev.stC fun _ _ => ?_ | refine Ev.sc (by omega) ?_ | refine Ev.scg (by omega) ?_) | rw [decide_eq_true (by omega)] | rw [decide_eq_false (by omega)])
    exact Ev.ret rfl
  · rw [decide_eq_false h0]
    repeat (first | refine Ev.s ?_ | refine Ev.newC fun _ _ _ => ?_ | refine Ev.boxC fun _ _ _ => ?_ | refine Ev.stC fun _ _ => ?_ | refine Ev.sc (by omega) ?_ | refine Ev.scg (by omega) ?_)
    by_cases h1 : 2 ≤ n
    · rw [decide_eq_true h1]
      repeat (first | refine Ev.s ?_ | refine Ev.newC fun _ _ _ => ?_ | refine Ev.boxC fun _ _ _ => ?_ | refine Ev.stC fun _ _ => ?_ | refine Ev.sc (by omega) ?_ | refine Ev.scg (by omega) ?_)
      exact Ev.ret rfl
    · rw [decide_eq_false h1]
      repeat (first | (first | refine Ev.s ?_ | refine Ev.newC fun _ _ _ => ?_ | refine Ev.boxC fun _ _ _ => ?_ | refine Ev.stC fun _ _ => ?_ | refine Ev.sc (by omega) ?_ | refine Ev.scg (by omega) ?_) | rw [decide_eq_true (by omega)] | rw [decide_eq_false (by omega)])
      exact Ev.ret rfl
theorem cget_spec {s : List UInt8} (hs : s.length ≤ 4) : Ev (fun k _ => rn k 22 [str s] H) (fun r => r = (i64 (getN s), H)) := by
  refine Ev.fn (fun k => f22_eq k _ H) ?_
  repeat (first | refine Ev.s ?_ | refine Ev.newC fun _ _ _ => ?_ | refine Ev.boxC fun _ _ _ => ?_ | refine Ev.stC fun _ _ => ?_ | refine Ev.sc (by omega) ?_ | refine Ev.scg (by omega) ?_)
  have key : ∀ (m i : Nat), i + m = s.length → Ev (fun k K => f22_L0 k (str s) (i64 (getN (s.take i))) (i64 s.length) (i64 i) K H) (fun o => o = (.exit 0, f22_X_L0 (i64 (getN s)), H)) := by
    intro m
    induction m with
    | zero =>
      intro i hi
      refine Ev.succ (fun k K => f22_L0_succ k _ _ _ _ K H) ?_
      repeat (first | (first | refine Ev.s ?_ | refine Ev.newC fun _ _ _ => ?_ | refine Ev.boxC fun _ _ _ => ?_ | refine Ev.stC fun _ _ => ?_ | refine Ev.sc (by omega) ?_ | refine Ev.scg (by omega) ?_) | rw [decide_eq_true (by omega)] | rw [decide_eq_false (by omega)])
      rw [List.take_of_length_le (by omega)]
      exact Ev.ret rfl
    | succ m ih =>
      intro i hi
      refine Ev.succ (fun k K => f22_L0_succ k _ _ _ _ K H) ?_
      have hlt : getN (s.take i) < 4294967296 := Nat.lt_of_lt_of_le (getN_lt (by omega)) (Nat.le_trans (Nat.pow_le_pow_right (by decide) (show i ≤ 4 by omega)) (by decide))
      have hg := getN_succ (s := s) (i := i) (by omega)
      have hb := UInt8.toNat_lt (s.getD i 0)
      repeat (first | (first | refine Ev.s ?_ | refine Ev.newC fun _ _ _ => ?_ | refine Ev.boxC fun _ _ _ => ?_ | refine Ev.stC fun _ _ => ?_ | refine Ev.sc (by omega) ?_ | refine Ev.scg (by omega) ?_) | rw [decide_eq_true (by omega)] | rw [decide_eq_false (by omega)])
      refine Ev.prim (shl8 (by omega)) ?_
      refine Ev.prim (ix_str (l := s) i rfl (by omega)) ?_
      repeat (first | refine Ev.s ?_ | refine Ev.newC fun _ _ _ => ?_ | refine Ev.boxC fun _ _ _ => ?_ | refine Ev.stC fun _ _ => ?_ | refine Ev.sc (by omega) ?_ | refine Ev.scg (by omega) ?_)
      refine Ev.prim (or8 (by omega) hb) ?_
      repeat (first | refine Ev.s ?_ | refine Ev.newC fun _ _ _ => ?_ | refine Ev.boxC fun _ _ _ => ?_ | refine Ev.stC fun _ _ => ?_ | refine Ev.sc (by omega) ?_ | refine Ev.scg (by omega) ?_)
      rw [← hg]
      exact ih (i + 1) (by omega)
  refine Ev.bind (Ev.loop (key s.length 0 (by omega))) ?_
  rintro _ rfl
  refine Ev.eq (fun k _ => f22_A0_x0 k _ H) ?_
  exact Ev.ret rfl
theorem cright_loop {c : Nat} {next : Int} {sv : Value} {l : Vers} (hv : ScN B sv l.length 2 (verC l)) (hl : l.length < 1000000000) : ∀ (m i : Nat) (last : Int) (H : AH), i + m = l.length → St H0 B0 B ((c, ⟨[.int .i64 next, sv], 24, .fix⟩) :: L) H →
    Ev (fun k K => f15_L0 k (ptr c 0) (.int .i64 last) sv (i64 l.length) (i64 i) K H) (fun o => (rightV next last (l.drop i) = true ∧ ∃ H', o = (.exit 0, f15_X_L0 unk, H') ∧ St H0 B0 B ((c, ⟨[.int .i64 next, sv], 24, .fix⟩) :: L) H') ∨
      (rightV next last (l.drop i) = false ∧ ∃ H', o = (.ret, f15_X_L0 (.bool false), H') ∧ St H0 B0 B ((c, ⟨[.int .i64 next, sv], 24, .fix⟩) :: L) H')) := by
  intro m
  induction m with
  | zero =>
    intro i last H hi hS
    refine Ev.succ (fun k K => f15_L0_succ k _ _ _ _ _ K H) ?_
    repeat (first | (first | refine Ev.s ?_ | refine Ev.newC fun _ _ _ => ?_ | refine Ev.boxC fun _ _ _ => ?_ | refine Ev.stC fun _ _ => ?_ | refine Ev.sc (by omega) ?_ | refine Ev.scg (by omega) ?_) | rw [decide_eq_true (by omega)] | rw [decide_eq_false (by omega)])
    rw [List.drop_of_length_le (by omega)]
    exact Ev.ret (.inl ⟨rfl, H, rfl, hS⟩)
  | succ m ih =>
    intro i last H hi hS
    refine Ev.succ (fun k K => f15_L0_succ k _ _ _ _ _ K H) ?_
    repeat (first | (first | refine Ev.s ?_ | refine Ev.newC fun _ _ _ => ?_ | refine Ev.boxC fun _ _ _ => ?_ | refine Ev.stC fun _ _ => ?_ | refine Ev.sc (by omega) ?_ | refine Ev.scg (by omega) ?_) | rw [decide_eq_true (by omega)] | rw [decide_eq_false (by omega)])
    obtain ⟨v, hvi⟩ : ∃ v, l[i]? = some v := ⟨_, List.getElem?_eq_getElem (by omega)⟩
    have hd : l.drop i = v :: l.drop (i + 1) := by
      have h1 := List.getElem?_eq_some_iff.1 hvi
      rw [← h1.2]
      exact List.drop_eq_getElem_cons h1.1
    have hN := ScN.mono hS.le hv
    obtain ⟨p, q1, q2⟩ := hN.ldAt (P := Tryd.prog) (t := 22) (k := .i64) (i := i) (by omega) (AggOf.eq (P := Tryd.prog) (t := 54))
    rw [verC_at hvi] at q2
    have hcell := hv.cell
    refine Ev.prim q1 ?_
    refine Ev.prim q2 ?_
    clear q1 q2 hN
    repeat (first | refine Ev.s ?_ | refine Ev.newC fun _ _ _ => ?_ | refine Ev.boxC fun _ _ _ => ?_ | refine Ev.stC fun _ _ => ?_ | refine Ev.sc (by omega) ?_ | refine Ev.scg (by omega) ?_)
    rename_i b1 H1 hS1 H2 hS2
    clear hS hS1
    have hrv : rightV next last (v :: l.drop (i + 1)) = (decide (last < v.1) && decide (v.1 < next) && rootV v.2 && rightV next v.1 (l.drop (i + 1))) := rfl
    rw [hd, hrv]
    by_cases h1 : v.1 ≤ last
    · rw [decide_eq_true h1, decide_eq_false (show ¬ last < v.1 by omega)]
      repeat (first | refine Ev.s ?_ | refine Ev.newC fun _ _ _ => ?_ | refine Ev.boxC fun _ _ _ => ?_ | refine Ev.stC fun _ _ => ?_ | refine Ev.sc (by omega) ?_ | refine Ev.scg (by omega) ?_)
      exact Ev.ret (.inr ⟨rfl, _, rfl, hS2.drop1⟩)
    · rw [decide_eq_false h1, decide_eq_true (show last < v.1 by omega)]
      repeat (first | refine Ev.s ?_ | refine Ev.newC fun _ _ _ => ?_ | refine Ev.boxC fun _ _ _ => ?_ | refine Ev.stC fun _ _ => ?_ | refine Ev.sc (by omega) ?_ | refine Ev.scg (by omega) ?_)
      by_cases h2 : next ≤ v.1
      · rw [decide_eq_true h2, decide_eq_false (show ¬ v.1 < next by omega)]
        repeat (first | refine Ev.s ?_ | refine Ev.newC fun _ _ _ => ?_ | refine Ev.boxC fun _ _ _ => ?_ | refine Ev.stC fun _ _ => ?_ | refine Ev.sc (by omega) ?_ | refine Ev.scg (by omega) ?_)
        exact Ev.ret (.inr ⟨rfl, _, rfl, hS2.drop1⟩)
      · rw [decide_eq_false h2, decide_eq_true (show v.1 < next by omega)]
        repeat (first | refine Ev.s ?_ | refine Ev.newC fun _ _ _ => ?_ | refine Ev.boxC fun _ _ _ => ?_ | refine Ev.stC fun _ _ => ?_ | refine Ev.sc (by omega) ?_ | refine Ev.scg (by omega) ?_)
        refine Ev.b2 (croot_spec (n := v.2)) ?_
        rintro _ _ h
        cases h
        by_cases h3 : rootV v.2 = true
        · rw [h3]
          repeat (first | (first | refine Ev.s ?_ | refine Ev.newC fun _ _ _ => ?_ | refine Ev.boxC fun _ _ _ => ?_ | refine Ev.stC fun _ _ => ?_ | refine Ev.sc (by omega) ?_ | refine Ev.scg (by omega) ?_) | rw [decide_eq_true (by omega)] | rw [decide_eq_false (by omega)])
          refine (ih (i + 1) v.1 H2 (by omega) hS2.drop1).mono ?_
          simp only [Bool.true_and, Bool.and_true]
          exact fun o h => h
        · rw [Bool.not_eq_true] at h3
          rw [h3]
          repeat (first | refine Ev.s ?_ | refine Ev.newC fun _ _ _ => ?_ | refine Ev.boxC fun _ _ _ => ?_ | refine Ev.stC fun _ _ => ?_ | refine Ev.sc (by omega) ?_ | refine Ev.scg (by omega) ?_)
          exact Ev.ret (.inr ⟨rfl, _, rfl, hS2.drop1⟩)
theorem cRight_spec {next : Int} {sv : Value} {l : Vers} (hv : ScN B sv l.length 2 (verC l)) (hl : l.length < 1000000000) (hS : St H0 B0 B L H) :
    Ev (fun k _ => rn k 15 [.agg #[.int .i64 next, sv]] H) (fun r => r.1 = .bool (rightC next l) ∧ St H0 B0 B L r.2) := by
  refine Ev.fn (fun k => f15_eq k _ H) ?_
  have hcell := hv.cell
  have hlen := hv.len (Und.eq (P := Tryd.prog) (t := 22))
  unfold rightC
  repeat (first | refine Ev.s ?_ | refine Ev.newC fun _ _ _ => ?_ | refine Ev.boxC fun _ _ _ => ?_ | refine Ev.stC fun _ _ => ?_ | refine Ev.sc (by omega) ?_ | refine Ev.scg (by omega) ?_)
  rename_i c H1 hS1
  clear hS
  by_cases h1 : next < 1
  · rw [decide_eq_true h1, decide_eq_false (show ¬ 1 ≤ next by omega)]
    repeat (first | refine Ev.s ?_ | refine Ev.newC fun _ _ _ => ?_ | refine Ev.boxC fun _ _ _ => ?_ | refine Ev.stC fun _ _ => ?_ | refine Ev.sc (by omega) ?_ | refine Ev.scg (by omega) ?_)
    exact Ev.ret ⟨rfl, hS1.drop1⟩
  rw [decide_eq_false h1, decide_eq_true (show 1 ≤ next by omega)]
  repeat (first | refine Ev.s ?_ | refine Ev.newC fun _ _ _ => ?_ | refine Ev.boxC fun _ _ _ => ?_ | refine Ev.stC fun _ _ => ?_ | refine Ev.sc (by omega) ?_ | refine Ev.scg (by omega) ?_)
  by_cases h2 : 16777216 < next
  · rw [decide_eq_true h2, decide_eq_false (show ¬ next ≤ 16777216 by omega)]
    repeat (first | refine Ev.s ?_ | refine Ev.newC fun _ _ _ => ?_ | refine Ev.boxC fun _ _ _ => ?_ | refine Ev.stC fun _ _ => ?_ | refine Ev.sc (by omega) ?_ | refine Ev.scg (by omega) ?_)
    exact Ev.ret ⟨rfl, hS1.drop1⟩
  rw [decide_eq_false h2, decide_eq_true (show next ≤ 16777216 by omega)]
  repeat (first | refine Ev.s ?_ | refine Ev.newC fun _ _ _ => ?_ | refine Ev.boxC fun _ _ _ => ?_ | refine Ev.stC fun _ _ => ?_ | refine Ev.sc (by omega) ?_ | refine Ev.scg (by omega) ?_)
  rw [hlen, Option.bind_some]
  repeat (first | refine Ev.s ?_ | refine Ev.newC fun _ _ _ => ?_ | refine Ev.boxC fun _ _ _ => ?_ | refine Ev.stC fun _ _ => ?_ | refine Ev.sc (by omega) ?_ | refine Ev.scg (by omega) ?_)
  by_cases h3 : 12 < l.length
  · rw [decide_eq_true h3, decide_eq_false (show ¬ l.length ≤ 12 by omega)]
    repeat (first | refine Ev.s ?_ | refine Ev.newC fun _ _ _ => ?_ | refine Ev.boxC fun _ _ _ => ?_ | refine Ev.stC fun _ _ => ?_ | refine Ev.sc (by omega) ?_ | refine Ev.scg (by omega) ?_)
    exact Ev.ret ⟨rfl, hS1.drop1⟩
  rw [decide_eq_false h3, decide_eq_true (show l.length ≤ 12 by omega)]
  repeat (first | refine Ev.s ?_ | refine Ev.newC fun _ _ _ => ?_ | refine Ev.boxC fun _ _ _ => ?_ | refine Ev.stC fun _ _ => ?_ | refine Ev.sc (by omega) ?_ | refine Ev.scg (by omega) ?_)
  refine Ev.prim hlen ?_
  refine Ev.bind (Ev.loop (cright_loop hv hl l.length 0 0 H1 (by omega) hS1)) ?_
  rintro _ (⟨h, H2, rfl, hS2⟩ | ⟨h, H2, rfl, hS2⟩)
  · rw [List.drop_zero] at h
    refine Ev.eq (fun k _ => f15_A0_x0 k _ H2) ?_
    exact Ev.ret ⟨by rw [h]; rfl, hS2.drop1⟩
  · rw [List.drop_zero] at h
    refine Ev.eq (fun k _ => f15_A0_ret k _ H2) ?_
    exact Ev.ret ⟨by rw [h]; rfl, hS2.drop1⟩
end
end Go.AM.C
set_option linter.unusedVariables false
set_option linter.unusedSimpArgs false
namespace Go.AM
variable {α β R : Type} {P : Program}
section
variable {t e : TypeId} {z : Value} {sz : Nat}
def BAcc (e : TypeId) (H0 B0 B : AH) (L : List (Nat × Blk)) (H : AH) (v : Value) (ds : List Nat) : Prop :=
  (ds = [] ∧ (v = .slice none 0 0) ∧ St H0 B0 B L H) ∨
  (∃ b, v = sl b 0 ds.length (ds.length + 1) ∧ St H0 B0 B ((b, ⟨ds.map u8, e, .buf⟩) :: L) H)
theorem BAcc.nil {H0 B0 B L H} (hS : St H0 B0 B L H) : BAcc e H0 B0 B L H (.slice none 0 0) [] := .inl ⟨rfl, rfl, hS⟩
theorem BAcc.st {H0 B0 B L H v ds} (h : BAcc e H0 B0 B L H v ds) : St H0 B0 B L H := by
  rcases h with ⟨_, _, hS⟩ | ⟨b, _, hS⟩
  · exact hS
  · exact hS.drop1
theorem BAcc.cell {H0 B0 B L H v ds} (h : BAcc e H0 B0 B L H v ds) : IsCell v := by
  rcases h with ⟨_, rfl, _⟩ | ⟨b, rfl, _⟩ <;> exact inferInstance
theorem BAcc.apS {H0 B0 B : AH} {L : List (Nat × Blk)} {H : AH} {v : Value} {ds ns : List Nat} {bytes : Nat} (h : BAcc e H0 B0 B L H v ds) (hl : (ds.length + ns.length) * bytes ≤ 140737488355328 ∧ ds.length + ns.length ≤ 9223372036854775807) :
    ∃ v' H' B', AM.apS .buf 1 bytes e H v ns.length (ns.map u8) = some (v', H') ∧ MoC B B' ∧ BAcc e H0 B0 B' L H' v' (ds ++ ns) := by
  by_cases hn : ns = []
  · subst hn
    refine ⟨v, H, B, ?_, ⟨Mo.refl B⟩, by rw [List.append_nil]; exact h⟩
    rcases h with ⟨_, rfl, _⟩ | ⟨b, rfl, _⟩ <;> rfl
  have hn' : ns.length ≠ 0 := fun e => hn (List.length_eq_zero_iff.mp e)
  rcases h with ⟨rfl, rfl, hS⟩ | ⟨b, rfl, hS⟩
  · obtain ⟨B', hm1, hS'⟩ := hS.mkB (ns.map u8) e .buf
    have hl2 : ns.length * bytes ≤ 140737488355328 ∧ ns.length ≤ 9223372036854775807 := by simpa using hl
    refine ⟨sl H.length 0 ns.length (ns.length + 1), _, B', ?_, ⟨hm1⟩, .inr ⟨H.length, ?_, hS'⟩⟩
    · simp only [AM.apS, if_neg hn', if_pos hl2]
    · rw [List.nil_append]
  · have hb := hS.get (.head _)
    obtain ⟨B', hm1, hS'⟩ := hS.kill.mkB (ds.map u8 ++ ns.map u8) e .buf
    rw [length_kill] at hS'
    have e1 : (ds.map u8).length = ds.length := List.length_map ..
    refine ⟨sl H.length 0 (ds.length + ns.length) (ds.length + ns.length + 1), _, B', ?_, ⟨hm1⟩, .inr ⟨H.length, ?_, by rw [List.map_append]; exact hS'⟩⟩
    · simp only [AM.apS, sl, if_neg hn', hb, Option.bind_some, rdN, Nat.mul_one, Nat.zero_add, e1, Nat.le_refl, if_true, List.drop_zero, hl, and_self]
      rw [if_neg (by omega)]
      have e2 : (ds.map u8).take ds.length = ds.map u8 := List.take_of_length_le (by omega)
      rw [e2]
    · rw [List.length_append]
/-- One more byte. -/
theorem BAcc.push {H0 B0 B : AH} {L : List (Nat × Blk)} {H : AH} {v : Value} {ds : List Nat} {d : Nat} {f : Nat → Nat → Value → AH → Option R} {Q : R → Prop} [hE : Elt P t e (.int .u8 0) sz] (h : BAcc e H0 B0 B L H v ds)
    (hl : (ds.length + 1) * sz ≤ 140737488355328 ∧ ds.length + 1 ≤ 9223372036854775807) (hk : ∀ v' B' H', MoC B B' → BAcc e H0 B0 B' L H' v' (ds ++ [d]) → Ev (fun k n => f k n v' H') Q) :
    Ev (fun k n => Go.AM.b2 (Go.AM.buildS P t H 1 [(0, u8 d)]) fun w h => Go.AM.b2 (Go.AM.ap P t t h v w) (f k n)) Q := by
  rcases h with ⟨rfl, rfl, hS⟩ | ⟨b, rfl, hS⟩
  · refine Ev.bsC (P := P) (t := t) (by decide) fun bw H1 hS1 => ?_
    have hx : Sc H1 (sl bw 0 1 1) ([d].map u8) := hS1.sc (.head _) (Nat.le_refl 1)
    obtain ⟨v', H', B', q1, q2, q3⟩ := BAcc.apS (e := e) (ns := [d]) (bytes := sz) (.inl ⟨rfl, rfl, hS1.drop1⟩) (by simpa using hl)
    refine Ev.prim2 ?_ (hk v' B' H' q2 q3)
    rw [ap_eq hE hE.U hx rfl]
    exact q1
  · refine Ev.bsC (P := P) (t := t) (by decide) fun bw H1 hS1 => ?_
    have hx : Sc H1 (sl bw 0 1 1) ([d].map u8) := hS1.sc (.head _) (Nat.le_refl 1)
    obtain ⟨v', H', B', q1, q2, q3⟩ := BAcc.apS (e := e) (ns := [d]) (bytes := sz) (.inr ⟨b, rfl, hS1.drop1⟩) hl
    refine Ev.prim2 ?_ (hk v' B' H' q2 q3)
    rw [ap_eq hE hE.U hx rfl]
    exact q1
/-- A string's bytes. -/
theorem BAcc.str {u : TypeId} {H0 B0 B : AH} {L : List (Nat × Blk)} {H : AH} {v : Value} {ds : List Nat} {l : List UInt8} {f : Nat → Nat → Value → AH → Option R} {Q : R → Prop} [hE : Elt P t e (.int .u8 0) 1] [hu : Und P u .string] (hs : szT P e = 1) (h : BAcc e H0 B0 B L H v ds)
    (hl : ds.length + l.length ≤ 140737488355328) (hb : byT P e = 1) (hk : ∀ v' B' H', MoC B B' → BAcc e H0 B0 B' L H' v' (ds ++ l.map UInt8.toNat) → Ev (fun k n => f k n v' H') Q) :
    Ev (fun k n => Go.AM.b2 (Go.AM.ap P t u H v (AM.str l)) (f k n)) Q := by
  obtain ⟨v', H', B', q1, q2, q3⟩ := h.apS (ns := l.map UInt8.toNat) (bytes := 1) (by rw [List.length_map]; omega)
  refine Ev.prim2 ?_ (hk v' B' H' q2 q3)
  rw [List.length_map] at q1
  unfold Go.AM.ap
  rw [hE.U, hu.eq]
  simp only [hE.Z, hE.K, Option.bind_some]
  rw [if_pos ⟨hs, by rw [hs]; exact size_cells hE.zn⟩]
  have e1 : lenOf (AM.str l) = some l.length := rfl
  have e2 : sliceCells (szT P e) H (AM.str l) l.length = some ((l.map UInt8.toNat).map u8) := by
    show (if l.length ≤ l.length then some ((cellsOfBytes ⟨l.toArray⟩).take l.length) else none) = _
    rw [if_pos (Nat.le_refl _)]
    congr 1
    unfold cellsOfBytes
    rw [List.take_of_length_le (by simp)]
    simp
  rw [e1, Option.bind_some, e2, Option.bind_some, if_pos (by simp [isCell]), hs, hb]
  exact q1
/-- What it says at last. -/
theorem BAcc.said {pt : TypeId} {H0 B0 B : AH} {L : List (Nat × Blk)} {H : AH} {v : Value} {ds : List Nat} (h : BAcc e H0 B0 B L H v ds) (hne : ds ≠ []) (hp : P.underlying pt = some (.pointer e)) (hs : szT P e = 1) (hl : ds.length ≤ 9223372036854775807) :
    ∃ p H', sdV v = some p ∧ usV P pt H p (i64 ds.length) = some (AM.str (ds.map fun n => UInt8.ofNat n), H') ∧ St H0 B0 B L H' ∧ H' = H := by
  rcases h with ⟨rfl, rfl, hS⟩ | ⟨b, rfl, hS⟩
  · exact absurd rfl hne
  · have hn : ds.length ≠ 0 := fun e => hne (List.length_eq_zero_iff.mp e)
    have hb := hS.get (.head _)
    refine ⟨ptr b 0, H, by simp only [sdV, sl, if_neg hn]; rfl, ?_, hS.drop1, rfl⟩
    have e0 : usV P pt H (ptr b 0) (i64 ds.length) = (match P.underlying pt with
        | some (.pointer e) =>
          (blk H b).bind fun k => if 0 < (ds.length : Int) ∧ (ds.length : Int) ≤ 9223372036854775807 ∧ (k.kind.wr || k.kind == .buf) = true ∧ k.elem = e ∧ szT P e = 1 then (rdN k 0 ((ds.length : Int)).toNat).bind fun cs => (bytesOf cs).map fun l => (.string ⟨l.toArray⟩, if k.kind = .buf then H else kill H b) else none
        | _ => none) := rfl
    rw [e0, hp]
    simp only [hb, Option.bind_some]
    rw [if_pos ⟨by omega, by omega, rfl, trivial, hs⟩]
    have e1 : rdN ⟨ds.map u8, e, .buf⟩ 0 ((ds.length : Int)).toNat = some (ds.map u8) := by
      unfold rdN
      rw [Int.toNat_natCast, if_pos (by simp), List.drop_zero, List.take_of_length_le (by simp)]
    rw [e1, Option.bind_some, bytesOf_map]
    rfl
theorem BAcc.upd {H0 B0 B : AH} {L L' : List (Nat × Blk)} {H : AH} {v : Value} {ds : List Nat} {b : Nat} {K : Blk} {cs : List Value} (h : BAcc e H0 B0 B L H v ds) (hu : Upd b K ⟨cs, K.elem, K.kind⟩ L L') : BAcc e H0 B0 B L' (put H b K cs) v ds := by
  rcases h with ⟨h1, hv, hS⟩ | ⟨b2, hv, hS⟩
  · exact .inl ⟨h1, hv, hS.put hu⟩
  · exact .inr ⟨b2, hv, hS.put (.tail _ hu)⟩
theorem BAcc.stC {t e' : TypeId} {H0 B0 B : AH} {L L' : List (Nat × Blk)} {H : AH} {v : Value} {ds : List Nat} {b off : Nat} {cs0 cs : List Value} {w : Value} {f : Nat → Nat → AH → Option R} {Q : R → Prop} (h : BAcc e H0 B0 B L H v ds) [hm : InL b ⟨cs0, e', .fix⟩ L] [hs : PrimEq (stK P t cs0 off w) cs]
    [hu : UpL b ⟨cs0, e', .fix⟩ ⟨cs, e', .fix⟩ L L'] (hk : ∀ H', BAcc e H0 B0 B L' H' v ds → Ev (fun k n => f k n H') Q) : Ev (fun k n => (Go.AM.st P t H (ptr b off) w).bind (f k n)) Q := by
  rcases h with ⟨h1, hv, hS⟩ | ⟨b2, hv, hS⟩
  · exact Ev.st hS hm.mem hs.eq rfl hu.upd fun H' hS' => hk H' (.inl ⟨h1, hv, hS'⟩)
  · exact Ev.st hS (.tail _ hm.mem) hs.eq rfl (.tail _ hu.upd) fun H' hS' => hk H' (.inr ⟨b2, hv, hS'⟩)
end
end Go.AM
set_option linter.unusedVariables false
set_option linter.unusedSimpArgs false
set_option maxRecDepth 100000
namespace Go.AM.C
open Go Go.AM Go.Proofs
attribute [local irreducible] run bin un ld st box newV mkS fldA fld ixA ix slc slc3 build buildS cv cvS ap cpy lenV gOp pickV b2 aIf aChk evalK resume iterD Option.bind

section
variable {B B0 H0 H : AH} {L : List (Nat × Blk)}
theorem cput_inner {lv : Value} {n i : Nat} {x : Nat} {cs : List Value} {Bl : AH} (hv : ScN Bl lv n 1 cs) (hi : 2 * i + 1 < n) (hn : n < 1000000) (hx : x < 4294967296) (hxi : cs[2 * i + 1]? = some (i64 x)) :
    ∀ (j : Nat) (B H : AH) (ov : Value) (ds : List Nat), j ≤ 8 → Mo Bl B → ds.length + j < 1000000 → BAcc 5 H0 B0 B L H ov ds →
    Ev (fun K K2 => f21_L1 K lv ov (i64 (2 * i)) (.int .i64 ((j : Int) - 1)) K2 H) (fun o => ∃ B' H' ov', o = (.exit 2, f21_X_L1 lv ov' (i64 (2 * i)), H') ∧ MoC B B' ∧ BAcc 5 H0 B0 B' L H' ov' (ds ++ (be j x).map UInt8.toNat)) := by
  intro j
  induction j with
  | zero =>
    intro B H ov ds hj hB hds hA
    refine Ev.succ (fun K K2 => f21_L1_succ K _ _ _ _ K2 H) ?_
    repeat (first | refine Ev.s ?_ | refine Ev.newC fun _ _ _ => ?_ | refine Ev.boxC fun _ _ _ => ?_ | refine Ev.stC fun _ _ => ?_ | refine Ev.sc (by omega) ?_ | refine Ev.scg (by omega) ?_)
    rw [decide_eq_false (by omega)]
    repeat (first | refine Ev.s ?_ | refine Ev.newC fun _ _ _ => ?_ | refine Ev.boxC fun _ _ _ => ?_ | refine Ev.stC fun _ _ => ?_ | refine Ev.sc (by omega) ?_ | refine Ev.scg (by omega) ?_)
    exact Ev.ret ⟨B, H, ov, rfl, ⟨Mo.refl B⟩, by simpa [be] using hA⟩
  | succ j ih =>
    intro B H ov ds hj hB hds hA
    refine Ev.succ (fun K K2 => f21_L1_succ K _ _ _ _ K2 H) ?_
    rw [show ((j + 1 : Nat) : Int) - 1 = (j : Int) by omega]
    repeat (first | (first | refine Ev.s ?_ | refine Ev.newC fun _ _ _ => ?_ | refine Ev.boxC fun _ _ _ => ?_ | refine Ev.stC fun _ _ => ?_ | refine Ev.sc (by omega) ?_ | refine Ev.scg (by omega) ?_) | rw [decide_eq_true (by omega)] | rw [decide_eq_false (by omega)])
    have hS := hA.st
    refine Ev.ixN (t := 63) (x := i64 x) (ScN.mono (hB.trans hS.le) hv) (2 * i + 1) rfl hi hxi fun p hp => ?_
    refine Ev.prim (hp.eq H (Mo.refl H)) ?_
    repeat (first | refine Ev.s ?_ | refine Ev.newC fun _ _ _ => ?_ | refine Ev.boxC fun _ _ _ => ?_ | refine Ev.stC fun _ _ => ?_ | refine Ev.sc (by omega) ?_ | refine Ev.scg (by omega) ?_)
    refine Ev.prim (shrN (show 8 * j < IntKind.i64.bits by show 8 * j < 64; omega)) ?_
    refine Ev.prim (toU8 (Und.eq (P := Tryd.prog) (t := 3)) (Und.eq (P := Tryd.prog) (t := 5))) ?_
    refine BAcc.push (P := Tryd.prog) (t := 55) hA (by omega) fun ov' B' H' hm' hA' => ?_
    refine Ev.prim (bin_sub64 (by omega)) ?_
    refine (ih B' H' ov' _ (by omega) (hB.trans hm'.mo) (by simp; omega) hA').mono ?_
    rintro o ⟨B2, H2, ov2, h1, h2, h3⟩
    refine ⟨B2, H2, ov2, h1, ⟨hm'.mo.trans h2.mo⟩, ?_⟩
    have e : (be (j + 1) x).map UInt8.toNat = [x / 2 ^ (8 * j) % 256] ++ (be j x).map UInt8.toNat := by
      rw [be_succ, List.map_cons, show (UInt8.ofNat (x / 256 ^ j)).toNat = x / 256 ^ j % 256 from rfl, Nat.pow_mul]; rfl
    rw [e, ← List.append_assoc]
    exact h3
theorem cput_spec {lv : Value} {l : List (Nat × Int)} (hv : ScN B lv (2 * l.length) 1 (pairC l)) (hl : l.length < 1000) (hne : l ≠ []) (hx : ∀ p ∈ l, 1 ≤ p.1 ∧ p.1 ≤ 4 ∧ 0 ≤ p.2 ∧ p.2 < 4294967296) (hS : St H0 B0 B L H) :
    Ev (fun k _ => rn k 21 [lv] H) (fun r => r.1 = str (encP l) ∧ ∃ B', MoC B B' ∧ St H0 B0 B' L r.2) := by
  refine Ev.fn (fun k => f21_eq k _ H) ?_
  have hlen : ∀ i, i ≤ l.length → (encP (l.take i)).length ≤ 4 * i := by
    intro i
    induction i with
    | zero => intro _; simp [encP]
    | succ i ih =>
      intro hi
      have h1 := ih (by omega)
      have hp := hx _ (List.getElem_mem (show i < l.length by omega))
      rw [List.take_add_one, List.getElem?_eq_getElem (by omega)]
      unfold encP at h1 ⊢
      rw [List.flatMap_append, List.length_append]
      simp only [Option.toList, List.flatMap_cons, List.flatMap_nil, List.append_nil, be_len]
      omega
  have key : ∀ (m i : Nat) (B1 H1 : AH) (ov : Value), i + m = l.length → Mo B B1 → BAcc 5 H0 B0 B1 L H1 ov ((encP (l.take i)).map UInt8.toNat) →
      Ev (fun K K2 => f21_L0 K lv ov (i64 (2 * i)) K2 H1) (fun o => ∃ B' H' ov', o = (.exit 0, f21_X_L0 ov', H') ∧ MoC B1 B' ∧ BAcc 5 H0 B0 B' L H' ov' ((encP l).map UInt8.toNat)) := by
    intro m
    induction m with
    | zero =>
      intro i B1 H1 ov hi hB hA
      refine Ev.succ (fun K K2 => f21_L0_succ K _ _ _ K2 H1) ?_
      have hll := hv.len (Und.eq (P := Tryd.prog) (t := 63))
      repeat (first | refine Ev.s ?_ | refine Ev.newC fun _ _ _ => ?_ | refine Ev.boxC fun _ _ _ => ?_ | refine Ev.stC fun _ _ => ?_ | refine Ev.sc (by omega) ?_ | refine Ev.scg (by omega) ?_)
      refine Ev.prim hll ?_
      repeat (first | refine Ev.s ?_ | refine Ev.newC fun _ _ _ => ?_ | refine Ev.boxC fun _ _ _ => ?_ | refine Ev.stC fun _ _ => ?_ | refine Ev.sc (by omega) ?_ | refine Ev.scg (by omega) ?_)
      rw [decide_eq_false (by omega)]
      repeat (first | refine Ev.s ?_ | refine Ev.newC fun _ _ _ => ?_ | refine Ev.boxC fun _ _ _ => ?_ | refine Ev.stC fun _ _ => ?_ | refine Ev.sc (by omega) ?_ | refine Ev.scg (by omega) ?_)
      rw [List.take_of_length_le (by omega)] at hA
      exact Ev.ret ⟨B1, H1, ov, rfl, ⟨Mo.refl B1⟩, hA⟩
    | succ m ih =>
      intro i B1 H1 ov hi hB hA
      refine Ev.succ (fun K K2 => f21_L0_succ K _ _ _ K2 H1) ?_
      have hll := hv.len (Und.eq (P := Tryd.prog) (t := 63))
      repeat (first | refine Ev.s ?_ | refine Ev.newC fun _ _ _ => ?_ | refine Ev.boxC fun _ _ _ => ?_ | refine Ev.stC fun _ _ => ?_ | refine Ev.sc (by omega) ?_ | refine Ev.scg (by omega) ?_)
      refine Ev.prim hll ?_
      repeat (first | refine Ev.s ?_ | refine Ev.newC fun _ _ _ => ?_ | refine Ev.boxC fun _ _ _ => ?_ | refine Ev.stC fun _ _ => ?_ | refine Ev.sc (by omega) ?_ | refine Ev.scg (by omega) ?_)
      rw [decide_eq_true (by omega)]
      repeat (first | refine Ev.s ?_ | refine Ev.newC fun _ _ _ => ?_ | refine Ev.boxC fun _ _ _ => ?_ | refine Ev.stC fun _ _ => ?_ | refine Ev.sc (by omega) ?_ | refine Ev.scg (by omega) ?_)
      have hS1 := hA.st
      obtain ⟨⟨k, x⟩, hp⟩ : ∃ p, l[i]? = some p := ⟨_, List.getElem?_eq_getElem (by omega)⟩
      obtain ⟨hk1, hk4, hx0, hx1⟩ := hx _ (List.mem_of_getElem? hp)
      obtain ⟨q, rfl⟩ : ∃ q : Nat, x = q := ⟨x.toNat, by dsimp only at hx0; omega⟩
      obtain ⟨e1, e2⟩ := pairC_at hp
      dsimp only at e1 e2 hk1 hk4 hx1
      refine Ev.ixN (t := 63) (x := i64 k) (ScN.mono (hB.trans hS1.le) hv) (2 * i) rfl (by omega) e1 fun pp hpp => ?_
      refine Ev.prim (hpp.eq H1 (Mo.refl H1)) ?_
      refine Ev.prim (bin_sub64 (by omega)) ?_
      have hli := hlen i (by omega)
      refine Ev.bind (Ev.loop (cput_inner hv (by omega) (by omega) (by omega) e2 k B1 H1 ov _ (by omega) hB (by rw [List.length_map]; omega) hA)) ?_
      rintro _ ⟨B2, H2, ov2, rfl, hm2, hA2⟩
      refine Ev.eq (fun K K2 => f21_A1_x2 K K2 _ _ _ H2) ?_
      repeat (first | refine Ev.s ?_ | refine Ev.newC fun _ _ _ => ?_ | refine Ev.boxC fun _ _ _ => ?_ | refine Ev.stC fun _ _ => ?_ | refine Ev.sc (by omega) ?_ | refine Ev.scg (by omega) ?_)
      rw [show 2 * i + 2 = 2 * (i + 1) by omega]
      have e3 : (encP (l.take i)).map UInt8.toNat ++ (be k q).map UInt8.toNat = (encP (l.take (i + 1))).map UInt8.toNat := by
        rw [List.take_add_one, hp, ← List.map_append]
        unfold encP
        rw [List.flatMap_append]
        simp [Option.toList]
      rw [e3] at hA2
      refine (ih (i + 1) B2 H2 ov2 (by omega) (hB.trans hm2.mo) hA2).mono ?_
      rintro o ⟨B', H', ov', h1, h2, h3⟩
      exact ⟨B', H', ov', h1, ⟨hm2.mo.trans h2.mo⟩, h3⟩
  refine Ev.bind (Ev.loop (key l.length 0 B H (.slice none 0 0) (by omega) (Mo.refl B) (BAcc.nil hS))) ?_
  rintro _ ⟨B1, H1, ov, rfl, hm1, hA⟩
  refine Ev.eq (fun K _ => f21_A0_x0 K _ H1) ?_
  have hpos : (encP l) ≠ [] := by
    cases l with
    | nil => exact (hne rfl).elim
    | cons p r =>
      have hp := hx p (.head _)
      intro h0
      have := congrArg List.length h0
      unfold encP at this
      rw [List.flatMap_cons, List.length_append, be_len] at this
      simp at this
      omega
  have hbl := hlen l.length (Nat.le_refl _)
  rw [List.take_length] at hbl
  rcases hA with ⟨h1, _⟩ | ⟨b, rfl, hS1⟩
  · exact (hpos (List.map_eq_nil_iff.1 h1)).elim
  · have hl2 : ((encP l).map UInt8.toNat).length = (encP l).length := List.length_map ..
    have hS2 : St H0 B0 B1 ((b, ⟨byts (encP l), 5, .buf⟩) :: L) H1 := hS1
    refine Ev.prim (cvS_part (d := 9) (bs := encP l) hS2 (.head _) (Nat.le_succ _) (by omega)) ?_
    rw [hl2, List.drop_zero, List.take_length]
    exact Ev.ret ⟨rfl, B1, hm1, hS2.drop1⟩
end
end Go.AM.C
set_option linter.unusedVariables false
set_option linter.unusedSimpArgs false
set_option maxRecDepth 100000
namespace Go.AM.C
open Go Go.AM Go.Proofs
attribute [local irreducible] run bin un ld st box newV mkS fldA fld ixA ix slc slc3 build buildS cv cvS ap cpy lenV gOp pickV b2 aIf aChk evalK resume iterD Option.bind

theorem pairsV_len (l : Vers) : (pairsV l).length = 2 * l.length := by
  unfold pairsV
  induction l with
  | nil => rfl
  | cons v r ih => simp only [List.flatMap_cons, List.length_append, List.length_cons, List.length_nil] at ih ⊢; omega
theorem pairsV_snoc {l : Vers} {i : Nat} {v : Int × Int} (h : l[i]? = some v) : pairsV (l.take (i + 1)) = pairsV (l.take i) ++ [(4, v.1), (2, v.2)] := by
  rw [List.take_add_one, h]; unfold pairsV; simp [Option.toList]
theorem pairC_app (a b : List (Nat × Int)) : pairC (a ++ b) = pairC a ++ pairC b := by unfold pairC; simp
theorem decV_snoc : ∀ (i : Nat) (s : List UInt8), decV (i + 1) s = decV i s ++ [(((getN ((s.drop (6 * i)).take 4) : Nat) : Int), ((getN (((s.drop (6 * i)).drop 4).take 2) : Nat) : Int))]
  | 0, s => by simp [decV]
  | i + 1, s => by
    rw [decV, decV_snoc i (s.drop 6), decV, List.drop_drop, show 6 + 6 * i = 6 * (i + 1) by omega]; rfl
theorem decV_len : ∀ (i : Nat) (s : List UInt8), (decV i s).length = i
  | 0, _ => rfl
  | i + 1, s => by rw [decV, List.length_cons, decV_len i]
section
variable {B B0 H0 H : AH} {L : List (Nat × Blk)}
theorem cenc_loop {sv : Value} {l : Vers} {next : Int} {Bl : AH} (hv : ScN Bl sv l.length 2 (verC l)) (hl : l.length ≤ 12) : ∀ (m i : Nat) (B1 H : AH) (s4 : Value), i + m = l.length → Mo Bl B1 → GAcc 3 1 H0 B0 B1 L H s4 (2 + 4 * i) (pairC ((4, next) :: pairsV (l.take i))) →
    Ev (fun k K => f8_L0 k s4 sv (i64 l.length) (i64 i) K H) (fun o => ∃ B' H' s4', o = (.exit 0, f8_X_L0 s4', H') ∧ MoC B1 B' ∧ GAcc 3 1 H0 B0 B' L H' s4' (2 + 4 * l.length) (pairC ((4, next) :: pairsV l))) := by
  intro m
  induction m with
  | zero =>
    intro i B1 H s4 hi hB hA
    refine Ev.succ (fun k K => f8_L0_succ k _ _ _ _ K H) ?_
    repeat (first | (first | refine Ev.s ?_ | refine Ev.newC fun _ _ _ => ?_ | refine Ev.boxC fun _ _ _ => ?_ | refine Ev.stC fun _ _ => ?_ | refine Ev.sc (by omega) ?_ | refine Ev.scg (by omega) ?_) | rw [decide_eq_true (by omega)] | rw [decide_eq_false (by omega)])
    have : i = l.length := by omega
    subst this
    rw [List.take_length] at hA
    exact Ev.ret ⟨B1, H, s4, rfl, ⟨Mo.refl B1⟩, hA⟩
  | succ m ih =>
    intro i B1 H s4 hi hB hA
    refine Ev.succ (fun k K => f8_L0_succ k _ _ _ _ K H) ?_
    repeat (first | (first | refine Ev.s ?_ | refine Ev.newC fun _ _ _ => ?_ | refine Ev.boxC fun _ _ _ => ?_ | refine Ev.stC fun _ _ => ?_ | refine Ev.sc (by omega) ?_ | refine Ev.scg (by omega) ?_) | rw [decide_eq_true (by omega)] | rw [decide_eq_false (by omega)])
    obtain ⟨v, hvi⟩ : ∃ v, l[i]? = some v := ⟨_, List.getElem?_eq_getElem (by omega)⟩
    obtain ⟨Lx, hS, back, hsub⟩ := hA.split
    have hN := ScN.mono (hB.trans hS.le) hv
    obtain ⟨p, q1, q2⟩ := hN.ldAt (P := Tryd.prog) (t := 22) (k := .i64) (i := i) (by omega) (AggOf.eq (P := Tryd.prog) (t := 54))
    rw [verC_at hvi] at q2
    refine Ev.prim q1 ?_
    refine Ev.prim q2 ?_
    clear q1 q2 hN
    repeat (first | refine Ev.s ?_ | refine Ev.newC fun _ _ _ => ?_ | refine Ev.boxC fun _ _ _ => ?_ | refine Ev.stC fun _ _ => ?_ | refine Ev.sc (by omega) ?_ | refine Ev.scg (by omega) ?_)
    rename_i b1 H1 hS1 H2 hS2
    clear hS hS1
    refine Ev.bsC (by decide) fun bb H3 hS3 => ?_
    clear hS2
    have hA3 : GAcc 3 1 H0 B0 B1 L H3 s4 (2 + 4 * i) (pairC ((4, next) :: pairsV (l.take i))) := back _ _ hS3.drop1.drop1
    have hw : ScN H3 (sl bb 0 4 4) 4 1 (pairC [(4, v.1), (2, v.2)]) := .inr ⟨bb, 0, 4, rfl, Nat.le_refl _, rfl, .inr ⟨_, hS3.get (.head _), rfl⟩⟩
    refine GAcc.more (t := 63) (Und.eq (P := Tryd.prog) (t := 63)) hA3 hw rfl (by omega) fun v' B4 H4 hm4 hA4 => ?_
    clear hS3
    repeat (first | (first | refine Ev.s ?_ | refine Ev.newC fun _ _ _ => ?_ | refine Ev.boxC fun _ _ _ => ?_ | refine Ev.stC fun _ _ => ?_ | refine Ev.sc (by omega) ?_ | refine Ev.scg (by omega) ?_) | rw [decide_eq_true (by omega)] | rw [decide_eq_false (by omega)])
    rw [← pairC_app, List.cons_append, ← pairsV_snoc hvi, show 2 + 4 * i + 4 = 2 + 4 * (i + 1) by omega] at hA4
    refine (ih (i + 1) B4 H4 v' (by omega) (hB.trans hm4.mo) hA4).mono ?_
    rintro o ⟨B', H', s4', h1, h2, h3⟩
    exact ⟨B', H', s4', h1, ⟨hm4.mo.trans h2.mo⟩, h3⟩
theorem cEncode_spec {next : Int} {sv : Value} {l : Vers} (hv : ScN B sv l.length 2 (verC l)) (hl : l.length < 1000000000) (hS : St H0 B0 B L H) :
    Ev (fun k _ => rn k 8 [.agg #[.int .i64 next, sv]] H) (fun r => r.1 = (if rightC next l = true then .tuple #[str (encC next l), .int .i64 0] else .tuple #[str [], .int .i64 1]) ∧ ∃ B', MoC B B' ∧ St H0 B0 B' L r.2) := by
  refine Ev.fn (fun k => f8_eq k _ H) ?_
  have hcell := hv.cell
  have hlen := hv.len (Und.eq (P := Tryd.prog) (t := 22))
  repeat (first | refine Ev.s ?_ | refine Ev.newC fun _ _ _ => ?_ | refine Ev.boxC fun _ _ _ => ?_ | refine Ev.stC fun _ _ => ?_ | refine Ev.sc (by omega) ?_ | refine Ev.scg (by omega) ?_)
  rename_i c H1 hS1
  clear hS
  refine Ev.b2 (cRight_spec hv hl hS1) ?_
  rintro _ H2 ⟨rfl, hS2⟩
  dsimp only at hS2
  clear hS1
  by_cases hr : rightC next l = true
  case neg =>
    rw [Bool.not_eq_true] at hr
    rw [hr]
    repeat (first | refine Ev.s ?_ | refine Ev.newC fun _ _ _ => ?_ | refine Ev.boxC fun _ _ _ => ?_ | refine Ev.stC fun _ _ => ?_ | refine Ev.sc (by omega) ?_ | refine Ev.scg (by omega) ?_)
    rw [if_neg (fun h => by cases h)]
    exact Ev.ret ⟨rfl, B, ⟨Mo.refl B⟩, hS2.drop1⟩
  rw [hr, if_pos rfl]
  have hr0 := hr
  simp only [rightC, Bool.and_eq_true, decide_eq_true_eq] at hr0
  obtain ⟨⟨⟨h1, h2⟩, h3⟩, h4⟩ := hr0
  have hmem := rightV_mem l 0 (by omega) h4
  repeat (first | refine Ev.s ?_ | refine Ev.newC fun _ _ _ => ?_ | refine Ev.boxC fun _ _ _ => ?_ | refine Ev.stC fun _ _ => ?_ | refine Ev.sc (by omega) ?_ | refine Ev.scg (by omega) ?_)
  refine Ev.bsC (by decide) fun bb H3 hS3 => ?_
  clear hS2
  repeat (first | refine Ev.s ?_ | refine Ev.newC fun _ _ _ => ?_ | refine Ev.boxC fun _ _ _ => ?_ | refine Ev.stC fun _ _ => ?_ | refine Ev.sc (by omega) ?_ | refine Ev.scg (by omega) ?_)
  refine Ev.prim hlen ?_
  have hA : GAcc 3 1 H0 B0 B ((c, ⟨[.int .i64 next, sv], 24, .fix⟩) :: L) H3 (sl bb 0 2 2) (2 + 4 * 0) (pairC ((4, next) :: pairsV (l.take 0))) := .inr ⟨by decide, rfl, bb, .fix, 2, rfl, .inr ⟨rfl, rfl⟩, hS3⟩
  refine Ev.bind (Ev.loop (cenc_loop hv h3 l.length 0 B H3 _ (by omega) (Mo.refl B) hA)) ?_
  rintro _ ⟨B4, H4, s4, rfl, hm4, hA4⟩
  refine Ev.eq (fun k _ => f8_A0_x0 k _ H4) ?_
  obtain ⟨B5, hm5, hN5, hS5⟩ := hA4.freeze
  clear hS3
  have hpl : ((4, next) :: pairsV l : List (Nat × Int)).length = 1 + 2 * l.length := by rw [List.length_cons, pairsV_len]; omega
  refine Ev.b2 (cput_spec (l := (4, next) :: pairsV l) (by rw [hpl, show 2 * (1 + 2 * l.length) = 2 + 4 * l.length by omega]; exact hN5) (by rw [hpl]; omega) (by simp) (fun p hp => ?_) hS5) ?_
  · rcases List.mem_cons.1 hp with rfl | hp
    · exact ⟨show 1 ≤ 4 by decide, show 4 ≤ 4 by decide, by show 0 ≤ next; omega, by show next < _; omega⟩
    · unfold pairsV at hp
      obtain ⟨v, hv2, hp⟩ := List.mem_flatMap.1 hp
      have := hmem v hv2
      rcases List.mem_cons.1 hp with rfl | hp
      · exact ⟨show 1 ≤ 4 by decide, show 4 ≤ 4 by decide, by show 0 ≤ v.1; omega, by show v.1 < _; omega⟩
      · rw [List.mem_singleton.1 hp]
        exact ⟨show 1 ≤ 2 by decide, show 2 ≤ 4 by decide, by show 0 ≤ v.2; omega, by show v.2 < _; omega⟩
  rintro _ H6 ⟨rfl, B6, hm6, hS6⟩
  dsimp only at hS6
  rw [encP_pairs]
  exact Ev.ret ⟨rfl, B6, ⟨hm4.mo.trans (hm5.mo.trans hm6.mo)⟩, hS6.drop1⟩
theorem cdec_loop {a c k : Nat} {n : Int} {s : List UInt8} (hs : s.length = 6 * k) (hk : k ≤ 1000000) : ∀ (m i : Nat) (B H : AH) (v : Value), i + m = k → GAcc 54 2 H0 B0 B ((c, ⟨[.int .i64 n, v], 24, .fix⟩) :: (a, ⟨[.int .i64 0, .slice none 0 0], 24, .fix⟩) :: L) H v i (verC (decV i s)) →
    Ev (fun K K2 => f9_L0 K (ptr a 0) (ptr c 0) (str (s.drop (6 * i))) K2 H) (fun o => ∃ B' H' v', o = (.exit 0, f9_X_L0 (ptr a 0) (ptr c 0), H') ∧ MoC B B' ∧ GAcc 54 2 H0 B0 B' ((c, ⟨[.int .i64 n, v'], 24, .fix⟩) :: (a, ⟨[.int .i64 0, .slice none 0 0], 24, .fix⟩) :: L) H' v' k (verC (decV k s))) := by
  intro m
  induction m with
  | zero =>
    intro i B H v hi hA
    refine Ev.succ (fun K K2 => f9_L0_succ K _ _ _ K2 H) ?_
    have : i = k := by omega
    subst this
    rw [List.drop_of_length_le (by omega)]
    repeat (first | (first | refine Ev.s ?_ | refine Ev.newC fun _ _ _ => ?_ | refine Ev.boxC fun _ _ _ => ?_ | refine Ev.stC fun _ _ => ?_ | refine Ev.sc (by omega) ?_ | refine Ev.scg (by omega) ?_) | rw [decide_eq_true (by omega)] | rw [decide_eq_false (by omega)])
    exact Ev.ret ⟨B, H, v, rfl, ⟨Mo.refl B⟩, hA⟩
  | succ m ih =>
    intro i B H v hi hA
    refine Ev.succ (fun K K2 => f9_L0_succ K _ _ _ K2 H) ?_
    have hlen : (s.drop (6 * i)).length = s.length - 6 * i := List.length_drop
    have hne : s.drop (6 * i) ≠ [] := fun h => by rw [h] at hlen; simp at hlen; omega
    obtain ⟨Lx, hS, back, hsub⟩ := hA.split
    have hcell := hA.cell
    repeat (first | refine Ev.s ?_ | refine Ev.newC fun _ _ _ => ?_ | refine Ev.boxC fun _ _ _ => ?_ | refine Ev.stC fun _ _ => ?_ | refine Ev.sc (by omega) ?_ | refine Ev.scg (by omega) ?_)
    rw [decide_eq_true hne]
    have hg : blk H c = some ⟨[.int .i64 n, v], 24, .fix⟩ := hS.get (hsub _ (.head _))
    have hld : ld Tryd.prog 22 H (ptr c 1) = some v := by rw [ld_blk hg]; exact PrimEq.eq
    repeat (first | refine Ev.s ?_ | refine Ev.newC fun _ _ _ => ?_ | refine Ev.boxC fun _ _ _ => ?_ | refine Ev.stC fun _ _ => ?_ | refine Ev.sc (by omega) ?_ | refine Ev.scg (by omega) ?_)
    refine Ev.prim hld ?_
    refine Ev.prim (slc_strT (l := s.drop (6 * i)) (i := 4) (by omega)) ?_
    refine Ev.b2 (cget_spec (s := (s.drop (6 * i)).take 4) (by rw [List.length_take]; omega)) ?_
    rintro _ _ h
    cases h
    refine Ev.chk hld ?_
    refine Ev.prim (slc_str2 (l := s.drop (6 * i)) 4 6 rfl rfl (by omega) (by omega)) ?_
    refine Ev.b2 (cget_spec (s := ((s.drop (6 * i)).drop 4).take (6 - 4)) (by rw [List.length_take]; omega)) ?_
    rintro _ _ h
    cases h
    refine Ev.chk hld ?_
    repeat (first | refine Ev.s ?_ | refine Ev.newC fun _ _ _ => ?_ | refine Ev.boxC fun _ _ _ => ?_ | refine Ev.stC fun _ _ => ?_ | refine Ev.sc (by omega) ?_ | refine Ev.scg (by omega) ?_)
    refine GAcc.push (t := 22) (ds := [i64 (getN ((s.drop (6 * i)).take 4)), i64 (getN (((s.drop (6 * i)).drop 4).take 2))]) hA rfl rfl rfl rfl (by decide) (by omega) fun v' B4 H4 hm4 hA4 => ?_
    have hcell4 := hA4.cell
    repeat (first | refine Ev.s ?_ | refine Ev.newC fun _ _ _ => ?_ | refine Ev.boxC fun _ _ _ => ?_ | refine Ev.stC fun _ _ => ?_ | refine Ev.sc (by omega) ?_ | refine Ev.scg (by omega) ?_)
    refine GAcc.stC hA4 fun H5 hA5 => ?_
    refine Ev.prim (slc_str (l := s.drop (6 * i)) 6 rfl (by omega)) ?_
    rw [List.drop_drop, show 6 * i + 6 = 6 * (i + 1) by omega]
    have e : verC (decV i s) ++ [i64 (getN ((s.drop (6 * i)).take 4)), i64 (getN (((s.drop (6 * i)).drop 4).take 2))] = verC (decV (i + 1) s) := by rw [decV_snoc, verC_snoc]
    rw [e] at hA5
    refine (ih (i + 1) B4 H5 v' (by omega) hA5).mono ?_
    rintro o ⟨B', H', v2, h1, h2, h3⟩
    exact ⟨B', H', v2, h1, ⟨hm4.mo.trans h2.mo⟩, h3⟩
def CDecV (B' : AH) (s : List UInt8) (v : Value) : Prop :=
  (decC s = none ∧ v = .tuple #[.agg #[.int .i64 0, .slice none 0 0], .int .i64 2]) ∨ ∃ n l sv, decC s = some (n, l) ∧ v = .tuple #[.agg #[.int .i64 n, sv], .int .i64 0] ∧ ScN B' sv l.length 2 (verC l)
theorem cDecode_spec {s : List UInt8} (hs : s.length ≤ 1100000) (hS : St H0 B0 B L H) :
    Ev (fun k _ => rn k 9 [str s] H) (fun r => ∃ B', CDecV B' s r.1 ∧ MoC B B' ∧ St H0 B0 B' L r.2) := by
  refine Ev.fn (fun k => f9_eq k _ H) ?_
  repeat (first | refine Ev.s ?_ | refine Ev.newC fun _ _ _ => ?_ | refine Ev.boxC fun _ _ _ => ?_ | refine Ev.stC fun _ _ => ?_ | refine Ev.sc (by omega) ?_ | refine Ev.scg (by omega) ?_)
  rename_i a H1 hS1
  clear hS
  by_cases h0 : s.length < 4
  · rw [decide_eq_true h0]
    repeat (first | refine Ev.s ?_ | refine Ev.newC fun _ _ _ => ?_ | refine Ev.boxC fun _ _ _ => ?_ | refine Ev.stC fun _ _ => ?_ | refine Ev.sc (by omega) ?_ | refine Ev.scg (by omega) ?_)
    have hd : decC s = none := by unfold decC; rw [if_pos (.inl h0)]
    rename_i H2 hS2
    exact Ev.ret ⟨B, .inl ⟨hd, rfl⟩, ⟨Mo.refl B⟩, hS2.drop1⟩
  rw [decide_eq_false h0]
  repeat (first | refine Ev.s ?_ | refine Ev.newC fun _ _ _ => ?_ | refine Ev.boxC fun _ _ _ => ?_ | refine Ev.stC fun _ _ => ?_ | refine Ev.sc (by omega) ?_ | refine Ev.scg (by omega) ?_)
  by_cases h1 : (s.length - 4) % 6 = 0
  case neg =>
    rw [decide_eq_true (by omega)]
    repeat (first | refine Ev.s ?_ | refine Ev.newC fun _ _ _ => ?_ | refine Ev.boxC fun _ _ _ => ?_ | refine Ev.stC fun _ _ => ?_ | refine Ev.sc (by omega) ?_ | refine Ev.scg (by omega) ?_)
    have hd : decC s = none := by unfold decC; rw [if_pos (.inr h1)]
    rename_i H2 hS2
    exact Ev.ret ⟨B, .inl ⟨hd, rfl⟩, ⟨Mo.refl B⟩, hS2.drop1⟩
  rw [decide_eq_false (by omega)]
  repeat (first | refine Ev.s ?_ | refine Ev.newC fun _ _ _ => ?_ | refine Ev.boxC fun _ _ _ => ?_ | refine Ev.stC fun _ _ => ?_ | refine Ev.sc (by omega) ?_ | refine Ev.scg (by omega) ?_)
  refine Ev.prim (slc_strT (l := s) (i := 4) (by omega)) ?_
  refine Ev.b2 (cget_spec (s := s.take 4) (by rw [List.length_take]; omega)) ?_
  rintro _ _ h
  cases h
  repeat (first | refine Ev.s ?_ | refine Ev.newC fun _ _ _ => ?_ | refine Ev.boxC fun _ _ _ => ?_ | refine Ev.stC fun _ _ => ?_ | refine Ev.sc (by omega) ?_ | refine Ev.scg (by omega) ?_)
  rename_i c H2 hS2 H3 hS3
  clear hS1 hS2
  refine Ev.prim (slc_str (l := s) 4 rfl (by omega)) ?_
  have hlen : (s.drop 4).length = 6 * ((s.length - 4) / 6) := by rw [List.length_drop]; omega
  refine Ev.bind (Ev.loop (cdec_loop (s := s.drop 4) (k := (s.length - 4) / 6) hlen (by omega) ((s.length - 4) / 6) 0 B H3 (.slice none 0 0) (by omega) (GAcc.nil hS3))) ?_
  rintro _ ⟨B4, H4, v, rfl, hm4, hA4⟩
  refine Ev.eq (fun k _ => f9_A0_x0 k _ _ H4) ?_
  have hcell := hA4.cell
  obtain ⟨B5, hm5, hN5, hS5⟩ := hA4.freeze
  clear hS3
  repeat (first | refine Ev.s ?_ | refine Ev.newC fun _ _ _ => ?_ | refine Ev.boxC fun _ _ _ => ?_ | refine Ev.stC fun _ _ => ?_ | refine Ev.sc (by omega) ?_ | refine Ev.scg (by omega) ?_)
  have hN5' : ScN B5 v (decV ((s.length - 4) / 6) (s.drop 4)).length 2 (verC (decV ((s.length - 4) / 6) (s.drop 4))) := by rw [decV_len]; exact hN5
  refine Ev.b2 (cRight_spec hN5' (by rw [decV_len]; omega) hS5) ?_
  rintro _ H6 ⟨rfl, hS6⟩
  dsimp only at hS6
  clear hS5
  by_cases hr : rightC ((getN (s.take 4) : Nat) : Int) (decV ((s.length - 4) / 6) (s.drop 4)) = true
  · rw [hr]
    repeat (first | refine Ev.s ?_ | refine Ev.newC fun _ _ _ => ?_ | refine Ev.boxC fun _ _ _ => ?_ | refine Ev.stC fun _ _ => ?_ | refine Ev.sc (by omega) ?_ | refine Ev.scg (by omega) ?_)
    rename_i H7 hS7
    refine Ev.ret ⟨B5, .inr ⟨_, _, v, ?_, rfl, hN5'⟩, ⟨hm4.mo.trans hm5.mo⟩, hS7.drop1.drop1⟩
    unfold decC
    rw [if_neg (by omega), if_pos hr]
  · have hr2 := hr
    rw [Bool.not_eq_true] at hr2
    rw [hr2]
    repeat (first | refine Ev.s ?_ | refine Ev.newC fun _ _ _ => ?_ | refine Ev.boxC fun _ _ _ => ?_ | refine Ev.stC fun _ _ => ?_ | refine Ev.sc (by omega) ?_ | refine Ev.scg (by omega) ?_)
    rename_i H7 hS7
    refine Ev.ret ⟨B5, .inl ⟨?_, rfl⟩, ⟨hm4.mo.trans hm5.mo⟩, hS7.drop1.drop1⟩
    unfold decC
    rw [if_neg (by omega), if_neg hr]
end
end Go.AM.C
set_option linter.unusedVariables false
set_option linter.unusedSimpArgs false
set_option maxRecDepth 100000
namespace Go.AM.C
open Go Go.AM Go.Proofs
attribute [local irreducible] run bin un ld st box newV mkS fldA fld ixA ix slc slc3 build buildS cv cvS ap cpy lenV gOp pickV b2 aIf aChk evalK resume iterD Option.bind

section
variable {H : AH}
theorem sum_bits {s : Value} {a b : Value} : ∀ (m i v : Nat), i + m = 8 → v < 4294967296 →
    Ev (fun k n => f70_L1 k s (u32 v) a b (i64 i) n H) (fun o => o = (.exit 2, f70_X_L1 s (u32 (crcBits m v)) a b, H)) := by
  intro m
  induction m with
  | zero =>
    intro i v hi hv
    refine Ev.succ (fun k n => f70_L1_succ k _ _ _ _ _ n H) ?_
    repeat (first | refine Ev.s ?_ | refine Ev.newC fun _ _ _ => ?_ | refine Ev.boxC fun _ _ _ => ?_ | refine Ev.stC fun _ _ => ?_ | refine Ev.sc (by omega) ?_ | refine Ev.scg (by omega) ?_)
    rw [decide_eq_false (by omega)]
    repeat (first | refine Ev.s ?_ | refine Ev.newC fun _ _ _ => ?_ | refine Ev.boxC fun _ _ _ => ?_ | refine Ev.stC fun _ _ => ?_ | refine Ev.sc (by omega) ?_ | refine Ev.scg (by omega) ?_)
    exact Ev.ret rfl
  | succ m ih =>
    intro i v hi hv
    have hb := crcBit_lt hv
    refine Ev.succ (fun k n => f70_L1_succ k _ _ _ _ _ n H) ?_
    repeat (first | refine Ev.s ?_ | refine Ev.newC fun _ _ _ => ?_ | refine Ev.boxC fun _ _ _ => ?_ | refine Ev.stC fun _ _ => ?_ | refine Ev.sc (by omega) ?_ | refine Ev.scg (by omega) ?_)
    rw [decide_eq_true (by omega)]
    repeat (first | refine Ev.s ?_ | refine Ev.newC fun _ _ _ => ?_ | refine Ev.boxC fun _ _ _ => ?_ | refine Ev.stC fun _ _ => ?_ | refine Ev.sc (by omega) ?_ | refine Ev.scg (by omega) ?_)
    refine crc_step hv ?_
    repeat (first | refine Ev.s ?_ | refine Ev.newC fun _ _ _ => ?_ | refine Ev.boxC fun _ _ _ => ?_ | refine Ev.stC fun _ _ => ?_ | refine Ev.sc (by omega) ?_ | refine Ev.scg (by omega) ?_)
    exact ih (i + 1) (crcBit v) (by omega) hb
theorem sum_loop {s : List UInt8} (hl : s.length < 9223372036854775808) : ∀ (m i v : Nat), i + m = s.length → v < 4294967296 →
    Ev (fun k n => f70_L0 k (str s) (u32 v) (i64 s.length) (i64 i) n H) (fun o => o = (.exit 0, f70_X_L0 (u32 (crcGo v (s.drop i))), H)) := by
  intro m
  induction m with
  | zero =>
    intro i v hi hv
    refine Ev.succ (fun k n => f70_L0_succ k _ _ _ _ n H) ?_
    repeat (first | refine Ev.s ?_ | refine Ev.newC fun _ _ _ => ?_ | refine Ev.boxC fun _ _ _ => ?_ | refine Ev.stC fun _ _ => ?_ | refine Ev.sc (by omega) ?_ | refine Ev.scg (by omega) ?_)
    rw [decide_eq_false (by omega)]
    repeat (first | refine Ev.s ?_ | refine Ev.newC fun _ _ _ => ?_ | refine Ev.boxC fun _ _ _ => ?_ | refine Ev.stC fun _ _ => ?_ | refine Ev.sc (by omega) ?_ | refine Ev.scg (by omega) ?_)
    rw [List.drop_of_length_le (by omega)]
    exact Ev.ret rfl
  | succ m ih =>
    intro i v hi hv
    have hx := xorb_lt hv (s.getD i 0)
    have hd := drop_getD (s := s) (i := i) (by omega)
    refine Ev.succ (fun k n => f70_L0_succ k _ _ _ _ n H) ?_
    repeat (first | refine Ev.s ?_ | refine Ev.newC fun _ _ _ => ?_ | refine Ev.boxC fun _ _ _ => ?_ | refine Ev.stC fun _ _ => ?_ | refine Ev.sc (by omega) ?_ | refine Ev.scg (by omega) ?_)
    rw [decide_eq_true (by omega)]
    repeat (first | refine Ev.s ?_ | refine Ev.newC fun _ _ _ => ?_ | refine Ev.boxC fun _ _ _ => ?_ | refine Ev.stC fun _ _ => ?_ | refine Ev.sc (by omega) ?_ | refine Ev.scg (by omega) ?_)
    refine Ev.prim (ix_str i rfl (by omega)) ?_
    repeat (first | refine Ev.s ?_ | refine Ev.newC fun _ _ _ => ?_ | refine Ev.boxC fun _ _ _ => ?_ | refine Ev.stC fun _ _ => ?_ | refine Ev.sc (by omega) ?_ | refine Ev.scg (by omega) ?_)
    rw [mod_two32]
    refine Ev.prim (xorW ⟨hv, Nat.lt_trans (u8_lt _) (by decide)⟩) ?_
    refine Ev.bind (Ev.loop (sum_bits 8 0 _ rfl hx)) ?_
    rintro _ rfl
    refine Ev.eq (fun k n => f70_A1_x2 k n _ _ _ _ H) ?_
    repeat (first | refine Ev.s ?_ | refine Ev.newC fun _ _ _ => ?_ | refine Ev.boxC fun _ _ _ => ?_ | refine Ev.stC fun _ _ => ?_ | refine Ev.sc (by omega) ?_ | refine Ev.scg (by omega) ?_)
    rw [hd]
    exact ih (i + 1) _ (by omega) (crcBits_lt 8 hx)
theorem Sum_spec {s : List UInt8} (hl : s.length < 9223372036854775808) : Ev (fun k _ => rn k 70 [str s] H) (fun r => r = (u32 (crc s), H)) := by
  refine Ev.fn (fun k => f70_eq k _ H) ?_
  repeat (first | refine Ev.s ?_ | refine Ev.newC fun _ _ _ => ?_ | refine Ev.boxC fun _ _ _ => ?_ | refine Ev.stC fun _ _ => ?_ | refine Ev.sc (by omega) ?_ | refine Ev.scg (by omega) ?_)
  refine Ev.bind (Ev.loop (sum_loop hl s.length 0 4294967295 (Nat.zero_add _) (by decide))) ?_
  rintro _ rfl
  refine Ev.eq (fun k _ => f70_A0_x0 k _ H) ?_
  rw [List.drop_zero]
  refine Ev.prim (notW (crcGo_lt s (by decide))) ?_
  exact Ev.ret rfl
end
end Go.AM.C


set_option linter.unusedVariables false
set_option linter.unusedSimpArgs false
set_option maxRecDepth 100000
namespace Go.AM.C
open Go Go.AM Go.Proofs
attribute [local irreducible] run bin un ld st box newV mkS fldA fld ixA ix slc slc3 build buildS cv cvS ap cpy lenV gOp pickV b2 aIf aChk evalK resume iterD Option.bind

abbrev BldT : List TypeId := [95]
theorem copy_eq (k : Nat) (a0 : Value) (H : AH) : rn (k + 1) 57 [a0] H = gCopy Tryd.prog BldT [a0] H := by kernel_rfl
theorem copy_spec {H0 B0 B H : AH} {L : List (Nat × Blk)} {p : Nat} {c0 v : Value} {rest : List Value} {T : TypeId} {ds : List Nat} (hT : T ∈ BldT) (hl : rest.length + 2 = szT Tryd.prog T) (hc : c0 = .pointer none ∨ c0 = ptr p 0)
    (hA : BAcc 5 H0 B0 B ((p, ⟨c0 :: v :: rest, T, .fix⟩) :: L) H v ds) :
    Ev (fun k _ => rn k 57 [ptr p 0] H) (fun r => r.1 = .tuple #[] ∧ BAcc 5 H0 B0 B ((p, ⟨ptr p 0 :: v :: rest, T, .fix⟩) :: L) r.2 v ds) := by
  refine Ev.fn (fun k => copy_eq k _ H) ?_
  have hb := hA.st.get (.head _)
  rcases hc with rfl | rfl
  · have e : gCopy Tryd.prog BldT [ptr p 0] H = some (.tuple #[], put H p ⟨.pointer none :: v :: rest, T, .fix⟩ (ptr p 0 :: v :: rest)) := by
      show (blk H p).bind _ = _
      rw [hb]
      simp only [Option.bind_some]
      rw [if_pos ⟨trivial, hT, by simpa using hl⟩]
      rfl
    rw [e]
    exact Ev.ret ⟨rfl, hA.upd (.head _)⟩
  · have e : gCopy Tryd.prog BldT [ptr p 0] H = some (.tuple #[], H) := by
      show (blk H p).bind _ = _
      rw [hb]
      simp only [Option.bind_some]
      rw [if_pos ⟨trivial, hT, by simpa using hl⟩]
      exact if_pos rfl
    rw [e]
    exact Ev.ret ⟨rfl, hA⟩
theorem WriteString_spec {H0 B0 B H : AH} {L : List (Nat × Blk)} {p : Nat} {l : List UInt8} {c0 v : Value} {rest : List Value} {T : TypeId} {ds : List Nat} (hT : T ∈ BldT) (hl : rest.length + 2 = szT Tryd.prog T) (hc : c0 = .pointer none ∨ c0 = ptr p 0) (hd : ds.length + l.length ≤ 140737488355328)
    (hA : BAcc 5 H0 B0 B ((p, ⟨c0 :: v :: rest, T, .fix⟩) :: L) H v ds) :
    Ev (fun k _ => rn k 45 [ptr p 0, str l] H) (fun r => r.1 = .tuple #[i64 l.length, .nilIface] ∧ ∃ v' B', MoC B B' ∧ BAcc 5 H0 B0 B' ((p, ⟨ptr p 0 :: v' :: rest, T, .fix⟩) :: L) r.2 v' (ds ++ l.map UInt8.toNat)) := by
  refine Ev.fn (fun k => f45_eq k _ _ H) ?_
  refine Ev.b2 (copy_spec hT hl hc hA) fun v1 H1 h1 => ?_
  obtain ⟨h1, hA1⟩ := h1
  simp only at h1 hA1
  have hSt := hA1.st
  have hcell := hA1.cell
  repeat (first | refine Ev.s ?_ | refine Ev.newC fun _ _ _ => ?_ | refine Ev.boxC fun _ _ _ => ?_ | refine Ev.stC fun _ _ => ?_ | refine Ev.sc (by omega) ?_ | refine Ev.scg (by omega) ?_)
  refine hA1.str (by kernel_rfl) hd (by kernel_rfl) fun v' B' H' hm hA' => ?_
  have hcell' := hA'.cell
  refine Ev.s ?_
  refine Ev.s ?_
  refine BAcc.stC (P := Tryd.prog) (t := 55) (b := p) (off := 1) (w := v') hA' fun H2 hA2 => ?_
  refine Ev.s ?_
  exact Ev.ret ⟨rfl, v', B', hm, hA2⟩
theorem bacc_len {e t : TypeId} [hu : Und Tryd.prog t (.slice e)] {H0 B0 B H : AH} {L : List (Nat × Blk)} {v : Value} {ds : List Nat} (h : BAcc e H0 B0 B L H v ds) : lenV Tryd.prog t v = some (i64 ds.length) := by
  rcases h with ⟨rfl, rfl, _⟩ | ⟨b, rfl, _⟩
  · unfold lenV; rw [hu.eq]; rfl
  · unfold lenV; rw [hu.eq]; rfl
theorem String_spec {H0 B0 B H : AH} {L : List (Nat × Blk)} {p : Nat} {c0 v : Value} {rest : List Value} {T : TypeId} {ds : List Nat} (hd : ds.length ≤ 140737488355328) (hne : ds ≠ [])
    (hA : BAcc 5 H0 B0 B ((p, ⟨c0 :: v :: rest, T, .fix⟩) :: L) H v ds) :
    Ev (fun k _ => rn k 46 [ptr p 0] H) (fun r => r.1 = str (ds.map fun n => UInt8.ofNat n) ∧ St H0 B0 B ((p, ⟨c0 :: v :: rest, T, .fix⟩) :: L) r.2) := by
  refine Ev.fn (fun k => f46_eq k _ H) ?_
  have hSt := hA.st
  have hcell := hA.cell
  obtain ⟨q, H', q1, q2, q3⟩ := hA.said (P := Tryd.prog) (pt := 115) hne (by exact Tryd.underlying115) (by kernel_rfl) (by omega)
  have hlen := bacc_len (t := 55) hA
  repeat (first | refine Ev.s ?_ | refine Ev.newC fun _ _ _ => ?_ | refine Ev.boxC fun _ _ _ => ?_ | refine Ev.stC fun _ _ => ?_ | refine Ev.sc (by omega) ?_ | refine Ev.scg (by omega) ?_)
  refine Ev.prim q1 ?_
  repeat (first | refine Ev.s ?_ | refine Ev.newC fun _ _ _ => ?_ | refine Ev.boxC fun _ _ _ => ?_ | refine Ev.stC fun _ _ => ?_ | refine Ev.sc (by omega) ?_ | refine Ev.scg (by omega) ?_)
  refine Ev.prim hlen ?_
  refine Ev.prim2 q2 ?_
  exact Ev.ret ⟨rfl, q3.1⟩
end Go.AM.C
set_option linter.unusedVariables false
set_option linter.unusedSimpArgs false
set_option maxRecDepth 100000
namespace Go.AM.C
open Go Go.AM Go.Proofs
attribute [local irreducible] run bin un ld st box newV mkS fldA fld ixA ix slc slc3 build buildS cv cvS ap cpy lenV gOp pickV b2 aIf aChk evalK resume iterD Option.bind

theorem WriteByte_spec {H0 B0 B H : AH} {L : List (Nat × Blk)} {p d : Nat} {c0 v : Value} {rest : List Value} {T : TypeId} {ds : List Nat} (hT : T ∈ BldT) (hl : rest.length + 2 = szT Tryd.prog T) (hc : c0 = .pointer none ∨ c0 = ptr p 0) (hd : ds.length < 140737488355328)
    (hA : BAcc 5 H0 B0 B ((p, ⟨c0 :: v :: rest, T, .fix⟩) :: L) H v ds) :
    Ev (fun k _ => rn k 65 [ptr p 0, u8 d] H) (fun r => r.1 = .nilIface ∧ ∃ v' B', MoC B B' ∧ BAcc 5 H0 B0 B' ((p, ⟨ptr p 0 :: v' :: rest, T, .fix⟩) :: L) r.2 v' (ds ++ [d])) := by
  refine Ev.fn (fun k => f65_eq k _ _ H) ?_
  refine Ev.b2 (copy_spec hT hl hc hA) fun v1 H1 h1 => ?_
  obtain ⟨h1, hA1⟩ := h1
  simp only at h1 hA1
  have hSt := hA1.st
  have hcell := hA1.cell
  repeat (first | refine Ev.s ?_ | refine Ev.newC fun _ _ _ => ?_ | refine Ev.boxC fun _ _ _ => ?_ | refine Ev.stC fun _ _ => ?_ | refine Ev.sc (by omega) ?_ | refine Ev.scg (by omega) ?_)
  refine hA1.push (by omega) fun v' B' H' hm hA' => ?_
  have hcell' := hA'.cell
  refine Ev.s ?_
  refine Ev.s ?_
  refine BAcc.stC (P := Tryd.prog) (t := 55) (b := p) (off := 1) (w := v') hA' fun H2 hA2 => ?_
  exact Ev.ret ⟨rfl, v', B', hm, hA2⟩
end Go.AM.C
set_option linter.unusedVariables false
namespace Go.AM.C
open Go Go.Proofs Go.RowKit
set_option maxHeartbeats 1000000 in
set_option maxRecDepth 100000 in
theorem copyCheck_used (b : Nat) (w : World) (h0 : w.cell? ⟨b, 0, none⟩ = some (.pointer (some ⟨b, 0, none⟩))) :
    Calls Tryd.prog 57 #[.pointer (some ⟨b, 0, none⟩)] w fun e w' => e = .returned (.tuple #[]) ∧ w' = w := by
  obtain ⟨j, hj⟩ := Option.isSome_iff_exists.1 (show (Tryd.prog.info? 95).isSome = true by kernel_rfl)
  have mixed : Tryd.prog.follows .mixedOrders = true := by kernel_rfl
  have t72 := Tryd.underlying95; have a72 := Tryd.isAgg95; have z72 := Tryd.sizeOf95; have v72 := Tryd.zeroValue95; have u72 := run_underlying t72
  have t70 := Tryd.underlying93; have a70 := Tryd.isAgg93; have z70 := Tryd.sizeOf93; have v70 := Tryd.zeroValue93; have u70 := run_underlying t70
  go_enter Tryd.func57, Tryd.ntmps57
  go_wp2
  rw [Lib.run_neq_ptr_same w _ t70 hj]
  go_wp2
  go_end0
  exact ⟨rfl, rfl⟩
set_option maxHeartbeats 1000000 in
set_option maxRecDepth 100000 in
theorem copyCheck_fresh (T n b : Nat) (hn : 0 < n) (hT : liesAt Tryd.prog Tryd.prog.depth T (n / Tryd.prog.cellsOf T) 0 95 1 = true) (w : World) (h0 : w.cell? ⟨b, 0, none⟩ = some (.pointer none)) (hsh : w.shape? b = some (T, n)) (hfz : w.frozen? ⟨b, 0, none⟩ = false) :
    Calls Tryd.prog 57 #[.pointer (some ⟨b, 0, none⟩)] w fun e w' => e = .returned (.tuple #[]) ∧ w' = w.setCell ⟨b, 0, none⟩ (.pointer (some ⟨b, 0, none⟩)) := by
  obtain ⟨j, hj⟩ := Option.isSome_iff_exists.1 (show (Tryd.prog.info? 95).isSome = true by kernel_rfl)
  have hc2 : Tryd.prog.cellsOf 95 = 2 := by kernel_rfl
  have hjs : j.size ≠ 0 := by
    unfold Program.cellsOf at hc2
    rw [hj] at hc2
    have : j.size = 2 := hc2
    omega
  have mixed : Tryd.prog.follows .mixedOrders = true := by kernel_rfl
  have t72 := Tryd.underlying95; have a72 := Tryd.isAgg95; have z72 := Tryd.sizeOf95; have v72 := Tryd.zeroValue95; have u72 := run_underlying t72
  have t70 := Tryd.underlying93; have a70 := Tryd.isAgg93; have z70 := Tryd.sizeOf93; have v70 := Tryd.zeroValue93; have u70 := run_underlying t70
  have tU := Tryd.underlying122; have aU := Tryd.isAgg122; have zU := Tryd.sizeOf122; have vU := Tryd.zeroValue122; have uU := run_underlying tU
  go_enter Tryd.func57, Tryd.ntmps57
  go_wp2
  rw [Lib.run_to_unsafe w ⟨b, 0, none⟩ t70 tU hj hjs hsh hn]
  simp only [Result.andThen]
  rw [Oper.upon_value]
  go_wp2
  rw [run_callFunc_extern Tryd.func64 (by kernel_rfl) (by kernel_rfl) (by kernel_rfl) (e := Extern.AbiNoEscape.same) (by kernel_rfl)]
  rw [Lib.run_noEscape]
  simp only [Result.andThen]
  rw [Oper.upon_value]
  go_wp2
  rw [Lib.run_from_unsafe w ⟨b, 0, none⟩ tU t70 hj hsh hT]
  simp only [Result.andThen]
  rw [Oper.upon_value]
  go_wp2
  go_end0
  exact ⟨rfl, rfl⟩
end Go.AM.C
set_option linter.unusedVariables false
namespace Go.AM.C
open Go Go.Proofs Go.RowKit
set_option maxHeartbeats 1000000 in
set_option maxRecDepth 100000 in
theorem grow_fresh (b n : Nat) (w : World) (c : Array Value) (T : TypeId) (hbk : w.heap[b]? = some (.cells c T (0, 0))) (h1 : c[1]? = some (.slice none 0 0)) (hn : n ≤ 140737488355328) :
    Calls Tryd.prog 76 #[.pointer (some ⟨b, 0, none⟩), .int .i64 n] w fun e w' => e = .returned (.tuple #[]) ∧ ∃ cs : Array Value,
      w'.heap = ((w.setCell ⟨b, 1, none⟩ (.slice (some ⟨w.heap.size, 0, none⟩) 0 cs.size)).alloc (.cells cs 5)).heap ∧ Below b w w' := by
  have t76 := Tryd.underlying55; have a76 := Tryd.isAgg55; have z76 := Tryd.sizeOf55; have v76 := Tryd.zeroValue55; have u76 := run_underlying t76
  have t98 := Tryd.underlying93; have a98 := Tryd.isAgg93; have z98 := Tryd.sizeOf93; have v98 := Tryd.zeroValue93; have u98 := run_underlying t98
  have t100 := Tryd.underlying95; have a100 := Tryd.isAgg95; have z100 := Tryd.sizeOf95; have v100 := Tryd.zeroValue95; have u100 := run_underlying t100
  have t3 := Tryd.underlying3; have a3 := Tryd.isAgg3; have z3 := Tryd.sizeOf3; have v3 := Tryd.zeroValue3; have u3 := run_underlying t3
  have t5 := Tryd.underlying5; have a5 := Tryd.isAgg5; have z5 := Tryd.sizeOf5; have v5 := Tryd.zeroValue5; have u5 := run_underlying t5
  obtain ⟨cs, hrun, hle, hmax⟩ := Lib.run_makeNoZero (P := Tryd.prog) w.drew #[3] 55 5 t76 n (by omega)
  have hw : IntKind.i64.wrap (IntKind.i64.wrap 0 + (n : Int)) = n := by
    rw [IntKind.wrap_i64, IntKind.wrap_i64]
    omega
  have hcall : (callFunc 79 #[.int .i64 (IntKind.i64.wrap (IntKind.i64.wrap 0 + (n : Int)))]).run Tryd.prog w.drew = .ok (.value (.slice (some ⟨w.drew.heap.size, 0, none⟩) n cs.size)) (w.drew.drew.drew.alloc (.cells cs 5)) := by
    rw [hw, run_callFunc_extern Tryd.func79 (by kernel_rfl) (by kernel_rfl) (by kernel_rfl) (e := Extern.BytealgMakeNoZero.makeNoZero #[3] #[55]) (by kernel_rfl), hrun]
    rfl
  have hlt : b < w.heap.size := (Array.getElem?_eq_some_iff.1 hbk).1
  have c1 : w.drew.cell? ⟨b, 1, none⟩ = some (.slice none 0 0) := by
    have : w.drew.heap[b]? = _ := hbk
    rw [Lib.cell_of_heap this]; exact h1
  have c2 : (w.alloc (.cells cs 5)).cell? ⟨b, 1, none⟩ = some (.slice none 0 0) := by
    have : (w.alloc (.cells cs 5)).heap[b]? = _ := (Lib.alloc_old w _ b hlt).trans hbk
    rw [Lib.cell_of_heap this]; exact h1
  have f2 : (w.alloc (.cells cs 5)).frozen? ⟨b, 1, none⟩ = false := Lib.frozen_of_heap ((Lib.alloc_old w _ b hlt).trans hbk) 1
  have hcopy : ∀ W : World, (Builtin.copy_ #[55, 55] 3 #[.slice (some ⟨w.heap.size, 0, none⟩) 0 cs.size, .slice none 0 0]).run Tryd.prog W = .ok (goInt 0) W :=
    fun W => run_copy_none W 55 55 3 5 _ _ 0 cs.size 0 0 t76 (by kernel_rfl) rfl
  have hbel : Below b w ((w.setCell ⟨b, 1, none⟩ (.slice (some ⟨w.heap.size, 0, none⟩) 0 cs.size)).alloc (.cells cs 5)) :=
    ((Below.refl b w).setCell (p := ⟨b, 1, none⟩) (Nat.le_refl _) _).alloc (by simp [World.setCell]; omega) _
  clear hw
  have mixed : Tryd.prog.follows .mixedOrders = true := by kernel_rfl
  go_enter Tryd.func76, Tryd.ntmps76
  go_wp2
  go_region_o
  all_goals (go_wp2; go_end0; first | exact ⟨rfl, cs, rfl, hbel.drew.drew.drew⟩ | exact ⟨rfl, cs, rfl, hbel.drew.drew⟩ | exact ⟨rfl, cs, rfl, hbel.drew.drew.drew.drew⟩)
end Go.AM.C
set_option linter.unusedVariables false
namespace Go.AM.C
open Go Go.Proofs Go.RowKit
theorem heap_two (w : World) (b : Nat) (c : Array Value) (T : TypeId) (u v : Value) (o : Obj) (hbk : w.heap[b]? = some (.cells c T (0, 0))) :
    (((w.setCell ⟨b, 0, none⟩ u).setCell ⟨b, 1, none⟩ v).alloc o).heap = ((w.alloc o).setRow b ((c.setIfInBounds 0 u).setIfInBounds 1 v)).heap := by
  have hlt := (Array.getElem?_eq_some_iff.1 hbk).1
  have hg := (Array.getElem?_eq_some_iff.1 hbk).2
  apply Array.ext_getElem?
  intro i
  unfold World.setCell World.setRow World.alloc
  simp only [Array.getElem?_modify, Array.getElem?_push, Array.size_modify]
  by_cases hi : i = w.heap.size
  · subst hi
    rw [if_pos rfl, if_pos rfl, if_neg (by omega)]
  · rw [if_neg hi, if_neg hi]
    by_cases hb : b = i
    · subst hb
      rw [if_pos rfl, if_pos rfl, if_pos rfl, hbk]; rfl
    · rw [if_neg hb, if_neg hb, if_neg hb]
set_option maxHeartbeats 1000000 in
set_option maxRecDepth 100000 in
theorem Grow_fresh (T b n : Nat) (hT2 : 2 ≤ szT Tryd.prog T) (hT : liesAt Tryd.prog Tryd.prog.depth T (szT Tryd.prog T / Tryd.prog.cellsOf T) 0 95 1 = true) (w : World) (c : Array Value) (hbk : w.heap[b]? = some (.cells c T (0, 0))) (hsz : c.size = szT Tryd.prog T) (h0 : c[0]? = some (.pointer none))
    (h1 : c[1]? = some (.slice none 0 0)) (hn0 : 0 < n) (hn : n ≤ 140737488355328) :
    Calls Tryd.prog 68 #[.pointer (some ⟨b, 0, none⟩), .int .i64 n] w fun e w' => e = .returned (.tuple #[]) ∧ ∃ cs : Array Value,
      w'.heap = ((w.alloc (.cells cs 5)).setRow b ((c.setIfInBounds 0 (.pointer (some ⟨b, 0, none⟩))).setIfInBounds 1 (.slice (some ⟨w.heap.size, 0, none⟩) 0 cs.size))).heap ∧ Below b w w' := by
  have t76 := Tryd.underlying55; have a76 := Tryd.isAgg55; have z76 := Tryd.sizeOf55; have v76 := Tryd.zeroValue55; have u76 := run_underlying t76
  have t98 := Tryd.underlying93; have a98 := Tryd.isAgg93; have z98 := Tryd.sizeOf93; have v98 := Tryd.zeroValue93; have u98 := run_underlying t98
  have t100 := Tryd.underlying95; have a100 := Tryd.isAgg95; have z100 := Tryd.sizeOf95; have v100 := Tryd.zeroValue95; have u100 := run_underlying t100
  have t3 := Tryd.underlying3; have a3 := Tryd.isAgg3; have z3 := Tryd.sizeOf3; have v3 := Tryd.zeroValue3; have u3 := run_underlying t3
  have hlt : b < w.heap.size := (Array.getElem?_eq_some_iff.1 hbk).1
  have hbk1 : (w.setCell ⟨b, 0, none⟩ (.pointer (some ⟨b, 0, none⟩))).heap[b]? = some (.cells (c.setIfInBounds 0 (.pointer (some ⟨b, 0, none⟩))) T (0, 0)) := by
    simp [World.setCell, Array.getElem?_modify, hbk]
  have h11 : (c.setIfInBounds 0 (.pointer (some ⟨b, 0, none⟩)))[1]? = some (.slice none 0 0) := by rw [Array.getElem?_setIfInBounds_ne (by decide)]; exact h1
  have c1 : (w.setCell ⟨b, 0, none⟩ (.pointer (some ⟨b, 0, none⟩))).cell? ⟨b, 1, none⟩ = some (.slice none 0 0) := by rw [Lib.cell_of_heap hbk1]; exact h11
  have c1' : (w.setCell ⟨b, 0, none⟩ (.pointer (some ⟨b, 0, none⟩))).drew.cell? ⟨b, 1, none⟩ = some (.slice none 0 0) := c1
  have hb1 : Below b w (w.setCell ⟨b, 0, none⟩ (.pointer (some ⟨b, 0, none⟩))) := (Below.refl b w).setCell (p := ⟨b, 0, none⟩) (Nat.le_refl _) _
  have hsize : (w.setCell ⟨b, 0, none⟩ (.pointer (some ⟨b, 0, none⟩))).heap.size = w.heap.size := by simp [World.setCell]
  have hs2 : (w.setCell ⟨b, 0, none⟩ (.pointer (some ⟨b, 0, none⟩))).drew.heap.size = w.heap.size := hsize
  have e95 : ∀ args w, (callFunc 57 args).run Tryd.prog w = .ok (.enter 57 args) w := enters_of Tryd.func57 (by kernel_rfl) rfl
  have e96 : ∀ args w, (callFunc 76 args).run Tryd.prog w = .ok (.enter 76 args) w := enters_of Tryd.func76 (by kernel_rfl) rfl
  have mixed : Tryd.prog.follows .mixedOrders = true := by kernel_rfl
  have hn' : ¬ ((n : Int) < 0) := by omega
  have hn2 : (0 : Int) < (n : Int) := by omega
  have hcc := copyCheck_fresh T (szT Tryd.prog T) b (by omega) hT w (by rw [Lib.cell_of_heap hbk]; exact h0) (by simp [World.shape?, hbk, hsz]) (Lib.frozen_of_heap hbk 0)
  have hgr := grow_fresh b n (w.setCell ⟨b, 0, none⟩ (.pointer (some ⟨b, 0, none⟩))).drew (c.setIfInBounds 0 (.pointer (some ⟨b, 0, none⟩))) T hbk1 h11 hn
  go_enter Tryd.func68, Tryd.ntmps68
  go_wp2_with (go_at_fn 57; refine hcc.mono ?_; rintro e w' ⟨rfl, rfl⟩)
  go_region_o
  all_goals go_wp2_with (go_at_fn 76; refine hgr.mono ?_; rintro e w' ⟨rfl, cs, h1, h2⟩)
  all_goals (go_end0; refine ⟨rfl, cs, ?_, hb1.drew.trans h2⟩; rw [hs2] at h1; exact h1.trans (by rw [← heap_two w b c T _ _ _ hbk]; rfl))
end Go.AM.C
set_option linter.unusedVariables false
set_option linter.unusedSimpArgs false
set_option maxRecDepth 100000
namespace Go.AM.C
open Go Go.AM Go.Proofs
attribute [local irreducible] run bin un ld st box newV mkS fldA fld ixA ix slc slc3 build buildS cv cvS ap cpy lenV gOp pickV b2 aIf aChk evalK resume iterD Option.bind

theorem mixed0 : (Tryd.prog).follows .mixedOrders = true := by kernel_rfl
theorem gv_ok : GivenOK Tryd.prog gv := by
  intro f g h
  have hgv : gv f = (if f = 57 then some (plain (gCopy Tryd.prog [95])) else if f = 68 then some (plain (gGrow Tryd.prog [95] 5))
    else if f = 35 then some (fun call n => runMid Tryd.prog call n (tbs 35) mText Tryd.f35) else if f = 13 then some (fun call n => runMid Tryd.prog call n (tbs 13) mCommit Tryd.f13) else none) := rfl
  rw [hgv] at h
  by_cases hf : f = 57
  · rw [if_pos hf] at h
    cases h
    subst hf
    refine plain_ok (gCopy_ok ⟨_, Tryd.func57, by decide +kernel, by kernel_rfl⟩ (fun T hT b w h0 hsh hfz => ?_) (fun b w h0 => copyCheck_used b w h0))
    simp only [List.mem_cons, List.not_mem_nil, or_false] at hT
    subst hT
    exact copyCheck_fresh _ _ b (by have : szT Tryd.prog 95 = 2 := by kernel_rfl
                                    omega) (by kernel_rfl) w h0 hsh hfz
  · rw [if_neg hf] at h
    by_cases hf : f = 68
    · rw [if_pos hf] at h
      cases h
      subst hf
      have s2 : szT Tryd.prog 95 = 2 := by kernel_rfl
      refine plain_ok (gGrow_ok ⟨_, Tryd.func68, by decide +kernel, by kernel_rfl⟩ (by kernel_rfl) (fun T hT => ?_) (fun T hT b n w c hbk hsz h0 h1 hn0 hn => ?_))
      · simp only [List.mem_cons, List.not_mem_nil, or_false] at hT
        subst hT; omega
      · simp only [List.mem_cons, List.not_mem_nil, or_false] at hT
        subst hT
        exact Grow_fresh _ b n (by omega) (by kernel_rfl) w c hbk hsz h0 h1 hn0 hn
    · rw [if_neg hf] at h
      by_cases hf : f = 35
      · rw [if_pos hf] at h
        cases h
        subst hf
        intro call n hc hd args H v H' hr
        refine runMid_sound hc hd mixed0 Tryd.func35 (fun c hb => RangesAt.nil ?_) (mText_ok hc hd mixed0) hr
        have hz : rgs (bodyOf Tryd.f35) = [] := by kernel_rfl
        have e : bodyOf Tryd.f35 = c := by unfold bodyOf; rw [hb]; rfl
        rw [← e]
        exact hz
      · rw [if_neg hf] at h
        by_cases hf : f = 13
        · rw [if_pos hf] at h
          cases h
          subst hf
          intro call n hc hd args H v H' hr
          refine runMid_sound hc hd mixed0 Tryd.func13 (fun c hb => RangesAt.nil ?_) (mCommit_ok hc hd mixed0) hr
          have hz : rgs (bodyOf Tryd.f13) = [] := by kernel_rfl
          have e : bodyOf Tryd.f13 = c := by unfold bodyOf; rw [hb]; rfl
          rw [← e]
          exact hz
        · rw [if_neg hf] at h
          cases h
end Go.AM.C
set_option linter.unusedVariables false
set_option linter.unusedSimpArgs false
set_option maxRecDepth 100000
namespace Go.AM.C
open Go Go.AM Go.Proofs
attribute [local irreducible] run bin un ld st box newV mkS fldA fld ixA ix slc slc3 build buildS cv cvS ap cpy lenV gOp pickV b2 aIf aChk evalK resume iterD Option.bind

theorem bld_sz : ([] : List Value).length + 2 = szT Tryd.prog 95 := by
  have : szT Tryd.prog 95 = 2 := by kernel_rfl
  rw [this]; rfl
theorem bldT_mem : 95 ∈ BldT := .head _
theorem String_same {H0 B0 B H : AH} {L : List (Nat × Blk)} {p : Nat} {c0 v : Value} {rest : List Value} {T : TypeId} {ds : List Nat} (hd : ds.length ≤ 140737488355328) (hne : ds ≠ [])
    (hA : BAcc 5 H0 B0 B ((p, ⟨c0 :: v :: rest, T, .fix⟩) :: L) H v ds) :
    Ev (fun k _ => rn k 46 [ptr p 0] H) (fun r => r = (str (ds.map fun n => UInt8.ofNat n), H)) := by
  refine Ev.fn (fun k => f46_eq k _ H) ?_
  have hSt := hA.st
  have hcell := hA.cell
  obtain ⟨q, H', q1, q2, q3, rfl⟩ := hA.said (P := Tryd.prog) (pt := 115) hne (by exact Tryd.underlying115) (by kernel_rfl) (by omega)
  have hlen := bacc_len (t := 55) hA
  repeat (first | refine Ev.s ?_ | refine Ev.newC fun _ _ _ => ?_ | refine Ev.boxC fun _ _ _ => ?_ | refine Ev.stC fun _ _ => ?_ | refine Ev.sc (by omega) ?_ | refine Ev.scg (by omega) ?_)
  refine Ev.prim q1 ?_
  repeat (first | refine Ev.s ?_ | refine Ev.newC fun _ _ _ => ?_ | refine Ev.boxC fun _ _ _ => ?_ | refine Ev.stC fun _ _ => ?_ | refine Ev.sc (by omega) ?_ | refine Ev.scg (by omega) ?_)
  refine Ev.prim hlen ?_
  refine Ev.prim2 q2 ?_
  exact Ev.ret rfl
section
variable {B B0 H0 H : AH} {L : List (Nat × Blk)}
theorem bytes_loop {p : Nat} {v : Value} {l : List Nat} (hll : l.length ≤ 1000000) :
    ∀ (m i : Nat) (B H : AH) (b : Value), i + m = l.length → FL B v u32 l → BAcc 5 H0 B0 B ((p, ⟨[if i = 0 then .pointer none else ptr p 0, b], 95, .fix⟩) :: L) H b ((l.take i).map (· % 256)) →
    Ev (fun k n => f58_L0 k (ptr p 0) v (i64 l.length) (i64 i) n H) (fun o => ∃ B' H' b' c, o = (.exit 0, f58_X_L0 (ptr p 0), H') ∧ MoC B B' ∧ BAcc 5 H0 B0 B' ((p, ⟨[c, b'], 95, .fix⟩) :: L) H' b' (l.map (· % 256))) := by
  intro m
  induction m with
  | zero =>
    intro i B H b hi hv hA
    refine Ev.succ (fun k n => f58_L0_succ k _ _ _ _ n H) ?_
    repeat (first | refine Ev.s ?_ | refine Ev.newC fun _ _ _ => ?_ | refine Ev.boxC fun _ _ _ => ?_ | refine Ev.stC fun _ _ => ?_ | refine Ev.sc (by omega) ?_ | refine Ev.scg (by omega) ?_)
    rw [decide_eq_false (by omega)]
    repeat (first | refine Ev.s ?_ | refine Ev.newC fun _ _ _ => ?_ | refine Ev.boxC fun _ _ _ => ?_ | refine Ev.stC fun _ _ => ?_ | refine Ev.sc (by omega) ?_ | refine Ev.scg (by omega) ?_)
    rw [List.take_of_length_le (by omega)] at hA
    exact Ev.ret ⟨B, H, b, _, rfl, ⟨Mo.refl B⟩, hA⟩
  | succ m ih =>
    intro i B H b hi hv hA
    obtain ⟨x, hx⟩ : ∃ x, l[i]? = some x := ⟨_, List.getElem?_eq_getElem (by omega)⟩
    have hSt := hA.st
    refine Ev.succ (fun k n => f58_L0_succ k _ _ _ _ n H) ?_
    repeat (first | refine Ev.s ?_ | refine Ev.newC fun _ _ _ => ?_ | refine Ev.boxC fun _ _ _ => ?_ | refine Ev.stC fun _ _ => ?_ | refine Ev.sc (by omega) ?_ | refine Ev.scg (by omega) ?_)
    rw [decide_eq_true (by omega)]
    repeat (first | refine Ev.s ?_ | refine Ev.newC fun _ _ _ => ?_ | refine Ev.boxC fun _ _ _ => ?_ | refine Ev.stC fun _ _ => ?_ | refine Ev.sc (by omega) ?_ | refine Ev.scg (by omega) ?_)
    refine Ev.ixF i rfl hx fun q hq => ?_
    repeat (first | refine Ev.s ?_ | refine Ev.newC fun _ _ _ => ?_ | refine Ev.boxC fun _ _ _ => ?_ | refine Ev.stC fun _ _ => ?_ | refine Ev.sc (by omega) ?_ | refine Ev.scg (by omega) ?_)
    refine Ev.b2 (WriteByte_spec (d := x % 256) (rest := []) bldT_mem bld_sz (by split <;> simp) (by rw [List.length_map, List.length_take]; omega) hA) ?_
    rintro _ H1 ⟨rfl, b1, B1, hm1, hA1⟩
    dsimp only at hA1
    clear hA hSt
    have e1 : (l.take i).map (· % 256) ++ [x % 256] = (l.take (i + 1)).map (· % 256) := by
      rw [List.take_add_one, hx, List.map_append]; rfl
    rw [e1] at hA1
    have hSt := hA1.st
    repeat (first | refine Ev.s ?_ | refine Ev.newC fun _ _ _ => ?_ | refine Ev.boxC fun _ _ _ => ?_ | refine Ev.stC fun _ _ => ?_ | refine Ev.sc (by omega) ?_ | refine Ev.scg (by omega) ?_)
    refine (ih (i + 1) B1 H1 b1 (by omega) (hv.mono hm1.mo) (by rw [if_neg (by omega)]; exact hA1)).mono ?_
    rintro o ⟨B', H', b', c, h1, h2, h3⟩
    exact ⟨B', H', b', c, h1, ⟨hm1.mo.trans h2.mo⟩, h3⟩
theorem bytes_spec {v : Value} {l : List Nat} (hv : FL B v u32 l) (hne : l ≠ []) (hll : l.length ≤ 1000000) (hS : St H0 B0 B L H) :
    Ev (fun k _ => rn k 58 [v] H) (fun r => r.1 = str (l.map UInt8.ofNat) ∧ ∃ B', MoC B B' ∧ St H0 B0 B' L r.2) := by
  refine Ev.fn (fun k => f58_eq k _ H) ?_
  refine Ev.newC fun p H1 hS1 => ?_
  clear hS
  repeat (first | refine Ev.s ?_ | refine Ev.newC fun _ _ _ => ?_ | refine Ev.boxC fun _ _ _ => ?_ | refine Ev.stC fun _ _ => ?_ | refine Ev.sc (by omega) ?_ | refine Ev.scg (by omega) ?_)
  refine Ev.bind (Ev.loop (bytes_loop hll l.length 0 B H1 (.slice none 0 0) (Nat.zero_add _) hv (BAcc.nil hS1))) ?_
  rintro _ ⟨B2, H2, b2, c, rfl, hm2, hA2⟩
  refine Ev.eq (fun k _ => f58_A0_x0 k _ H2) ?_
  refine Ev.b2 (String_same (by rw [List.length_map]; omega) (by simpa using hne) hA2) ?_
  rintro _ _ ⟨rfl, rfl⟩
  refine Ev.ret ⟨?_, B2, hm2, hA2.st.drop1⟩
  dsimp only
  congr 1
  rw [List.map_map]
  apply List.map_congr_left
  intro a _
  show UInt8.ofNat (a % 256) = UInt8.ofNat a
  apply UInt8.toNat_inj.1
  rw [UInt8.toNat_ofNat', UInt8.toNat_ofNat']
  omega
theorem psum_spec {s : List UInt8} (hl : s.length < 9223372036854775808) (hS : St H0 B0 B L H) :
    Ev (fun k _ => rn k 60 [str s] H) (fun r => r.1 = str (le4 (crc s)) ∧ ∃ B', MoC B B' ∧ St H0 B0 B' L r.2) := by
  refine Ev.fn (fun k => f60_eq k _ H) ?_
  refine Ev.b2 (Sum_spec hl) ?_
  rintro _ _ ⟨rfl, rfl⟩
  have hc := crc_lt s
  generalize crc s = n at hc
  refine Ev.prim (shrN (a := n) (b := 8) (by decide)) ?_
  refine Ev.prim (shrN (a := n) (b := 16) (by decide)) ?_
  refine Ev.prim (shrN (a := n) (b := 24) (by decide)) ?_
  refine Ev.bsC (P := Tryd.prog) (t := 124) (hS := hS) (by decide) fun b H1 hS1 => ?_
  obtain ⟨B1, hm1, hF, hS2⟩ := St.flz (l := [n, n / 2 ^ 8, n / 2 ^ 16, n / 2 ^ 24]) (f := u32) (cap := 4) hS1 (Nat.le_refl _)
  refine Ev.b2 (bytes_spec hF (by simp) (by simp) hS2) ?_
  rintro _ H2 ⟨rfl, B2, hm2, hS3⟩
  dsimp only at hS3
  exact Ev.ret ⟨rfl, B2, ⟨hm1.mo.trans hm2.mo⟩, hS3⟩
end
end Go.AM.C
set_option linter.unusedVariables false
set_option linter.unusedSimpArgs false
set_option maxRecDepth 100000
namespace Go.AM.C
open Go Go.AM Go.Proofs
attribute [local irreducible] run bin un ld st box newV mkS fldA fld ixA ix slc slc3 build buildS cv cvS ap cpy lenV gOp pickV b2 aIf aChk evalK resume iterD Option.bind

theorem grow_eq (k : Nat) (a0 a1 : Value) (H : AH) : rn (k + 1) 68 [a0, a1] H = gGrow Tryd.prog BldT 5 [a0, a1] H := by kernel_rfl
theorem Grow_spec {H0 B0 B H : AH} {L : List (Nat × Blk)} {p n : Nat} {rest : List Value} {T : TypeId} (hT : T ∈ BldT) (hl : rest.length + 2 = szT Tryd.prog T) (hn0 : 0 < n) (hn : n ≤ 140737488355328) (hS : St H0 B0 B ((p, ⟨.pointer none :: .slice none 0 0 :: rest, T, .fix⟩) :: L) H) :
    Ev (fun k _ => rn k 68 [ptr p 0, i64 n] H) (fun r => r.1 = .tuple #[] ∧ ∃ b' B', MoC B B' ∧ BAcc 5 H0 B0 B' ((p, ⟨ptr p 0 :: sl b' 0 0 1 :: rest, T, .fix⟩) :: L) r.2 (sl b' 0 0 1) []) := by
  refine Ev.fn (fun k => grow_eq k _ _ H) ?_
  have hb := hS.get (.head _)
  obtain ⟨B', hm, hS'⟩ := hS.mkB [] 5 .buf
  have e : gGrow Tryd.prog BldT 5 [ptr p 0, i64 n] H = some (.tuple #[], put (mkB H [] 5 .buf) p ⟨.pointer none :: .slice none 0 0 :: rest, T, .fix⟩ (ptr p 0 :: sl H.length 0 0 1 :: rest)) := by
    show (blk H p).bind _ = _
    rw [hb]
    simp only [Option.bind_some]
    rw [if_pos ⟨⟨trivial, hT, by simpa using hl⟩, by omega, by omega⟩]
    rfl
  rw [e]
  exact Ev.ret ⟨rfl, H.length, B', ⟨hm⟩, .inr ⟨H.length, rfl, hS'.put (.tail _ (.head _))⟩⟩
theorem Len_spec {H0 B0 B H : AH} {L : List (Nat × Blk)} {p : Nat} {c0 v : Value} {rest : List Value} {T : TypeId} {ds : List Nat}
    (hA : BAcc 5 H0 B0 B ((p, ⟨c0 :: v :: rest, T, .fix⟩) :: L) H v ds) :
    Ev (fun k _ => rn k 69 [ptr p 0] H) (fun r => r = (i64 ds.length, H)) := by
  refine Ev.fn (fun k => f69_eq k _ H) ?_
  have hSt := hA.st
  have hcell := hA.cell
  have hlen := bacc_len (t := 55) hA
  repeat (first | refine Ev.s ?_ | refine Ev.newC fun _ _ _ => ?_ | refine Ev.boxC fun _ _ _ => ?_ | refine Ev.stC fun _ _ => ?_ | refine Ev.sc (by omega) ?_ | refine Ev.scg (by omega) ?_)
  refine Ev.prim hlen ?_
  exact Ev.ret rfl
section
variable {B B0 H0 H : AH} {L : List (Nat × Blk)}
theorem rep_u8 (n : Nat) : (List.replicate n (0 : UInt8)).map UInt8.toNat = List.replicate n 0 := by simp
theorem rep_loop {p n : Nat} (hn : n ≤ 1000000) : ∀ (m j : Nat) (B H : AH) (v : Value), n - j ≤ m → 1 ≤ j → j ≤ n → BAcc 5 H0 B0 B ((p, ⟨[ptr p 0, v], 95, .fix⟩) :: L) H v (List.replicate j 0) →
    Ev (fun k K => f59_L0 k (i64 n) (i64 n) (ptr p 0) K H) (fun o => ∃ B' H' v', o = (.exit 3, f59_X_L0 (ptr p 0), H') ∧ MoC B B' ∧ BAcc 5 H0 B0 B' ((p, ⟨[ptr p 0, v'], 95, .fix⟩) :: L) H' v' (List.replicate n 0)) := by
  have done : ∀ (B H : AH) (v : Value), BAcc 5 H0 B0 B ((p, ⟨[ptr p 0, v], 95, .fix⟩) :: L) H v (List.replicate n 0) →
      Ev (fun k K => f59_L0 k (i64 n) (i64 n) (ptr p 0) K H) (fun o => ∃ B' H' v', o = (.exit 3, f59_X_L0 (ptr p 0), H') ∧ MoC B B' ∧ BAcc 5 H0 B0 B' ((p, ⟨[ptr p 0, v'], 95, .fix⟩) :: L) H' v' (List.replicate n 0)) := by
    intro B H v hA
    refine Ev.succ (fun k K => f59_L0_succ k _ _ _ K H) ?_
    refine Ev.b2 (Len_spec hA) ?_
    rintro _ _ ⟨rfl, rfl⟩
    rw [List.length_replicate]
    repeat (first | refine Ev.s ?_ | refine Ev.newC fun _ _ _ => ?_ | refine Ev.boxC fun _ _ _ => ?_ | refine Ev.stC fun _ _ => ?_ | refine Ev.sc (by omega) ?_ | refine Ev.scg (by omega) ?_)
    rw [decide_eq_false (by omega)]
    repeat (first | refine Ev.s ?_ | refine Ev.newC fun _ _ _ => ?_ | refine Ev.boxC fun _ _ _ => ?_ | refine Ev.stC fun _ _ => ?_ | refine Ev.sc (by omega) ?_ | refine Ev.scg (by omega) ?_)
    exact Ev.ret ⟨B, H, v, rfl, ⟨Mo.refl B⟩, hA⟩
  intro m
  induction m with
  | zero =>
    intro j B H v hm hj hjn hA
    obtain rfl : j = n := by omega
    exact done B H v hA
  | succ m ih =>
    intro j B H v hm hj hjn hA
    by_cases hlt : j < n
    · refine Ev.succ (fun k K => f59_L0_succ k _ _ _ K H) ?_
      refine Ev.b2 (Len_spec hA) ?_
      rintro _ _ ⟨rfl, rfl⟩
      rw [List.length_replicate]
      repeat (first | refine Ev.s ?_ | refine Ev.newC fun _ _ _ => ?_ | refine Ev.boxC fun _ _ _ => ?_ | refine Ev.stC fun _ _ => ?_ | refine Ev.sc (by omega) ?_ | refine Ev.scg (by omega) ?_)
      rw [decide_eq_true hlt]
      repeat (first | refine Ev.s ?_ | refine Ev.newC fun _ _ _ => ?_ | refine Ev.boxC fun _ _ _ => ?_ | refine Ev.stC fun _ _ => ?_ | refine Ev.sc (by omega) ?_ | refine Ev.scg (by omega) ?_)
      refine Ev.b2 (Len_spec hA) ?_
      rintro _ _ ⟨rfl, rfl⟩
      rw [List.length_replicate]
      repeat (first | refine Ev.s ?_ | refine Ev.newC fun _ _ _ => ?_ | refine Ev.boxC fun _ _ _ => ?_ | refine Ev.stC fun _ _ => ?_ | refine Ev.sc (by omega) ?_ | refine Ev.scg (by omega) ?_)
      refine Ev.b2 (Len_spec hA) ?_
      rintro _ _ ⟨rfl, rfl⟩
      rw [List.length_replicate]
      refine Ev.prim (show fold1 minV [i64 (n - j), i64 j, i64 n] = some (i64 (min (min (n - j) j) n)) by
        show (minV (i64 (n - j)) (i64 j)).bind (fun a => fold1 minV [a, i64 n]) = _
        have h1 := min_i64 (a := n - j) (b := j)
        have h2 : fold1 minV [i64 (n - j), i64 j] = minV (i64 (n - j)) (i64 j) := by
          show (minV _ _).bind (fun a => some a) = _
          cases minV (i64 (n - j)) (i64 j) <;> simp
        rw [← h2, h1, Option.bind_some, min_i64]) ?_
      obtain ⟨c, hc⟩ : ∃ c, c = min (min (n - j) j) n := ⟨_, rfl⟩
      rw [← hc]
      refine Ev.b2 (String_same (by rw [List.length_replicate]; omega) (by intro h; have := congrArg List.length h; simp at this; omega) hA) ?_
      rintro _ _ ⟨rfl, rfl⟩
      rw [show (List.replicate j 0).map (fun n => UInt8.ofNat n) = List.replicate j 0 by simp]
      refine Ev.prim (slc_strT (l := List.replicate j 0) (i := c) (by rw [List.length_replicate]; omega)) ?_
      rw [List.take_replicate, Nat.min_eq_left (by omega)]
      refine Ev.b2 (WriteString_spec (l := List.replicate c 0) (rest := []) bldT_mem bld_sz (.inr rfl) (by rw [List.length_replicate, List.length_replicate]; omega) hA) ?_
      rintro _ H1 ⟨rfl, v1, B1, hm1, hA1⟩
      dsimp only at hA1
      rw [rep_u8, List.replicate_append_replicate] at hA1
      refine (ih (j + c) B1 H1 v1 (by omega) (by omega) (by omega) hA1).mono ?_
      rintro o ⟨B', H', v', h1, h2, h3⟩
      exact ⟨B', H', v', h1, ⟨hm1.mo.trans h2.mo⟩, h3⟩
    · obtain rfl : j = n := by omega
      exact done B H v hA
theorem andQ32 {t : TypeId} {a : Nat} : bin Tryd.prog .and t (u64 a) (.int .u64 4294967295) = some (u64 (a % 4294967296)) := by
  rw [show (4294967295 : Int) = ((4294967295 : Nat) : Int) from rfl, bin_and, BitVec.ofInt_natCast, BitVec.ofInt_natCast, BitVec.toNat_and, BitVec.toNat_ofNat, BitVec.toNat_ofNat]
  rw [show IntKind.u64.bits = 64 from rfl, show 4294967295 % 2 ^ 64 = 2 ^ 32 - 1 from rfl, Nat.and_two_pow_sub_one_eq_mod, wrapu64]
  congr 2
  omega
theorem Mul_spec {n : Nat} (hn : n ≤ 1000000) : Ev (fun k _ => rn k 66 [u64 1, u64 n] H) (fun r => r = (.tuple #[u64 0, u64 n], H)) := by
  refine Ev.fn (fun k => f66_eq k _ _ H) ?_
  have key : Ev (fun k _ => rn k 74 [u64 1, u64 n] H) (fun r => r = (.tuple #[u64 0, u64 n], H)) := by
    refine Ev.fn (fun k => f74_eq k _ _ H) ?_
    refine Ev.prim andQ32 ?_
    refine Ev.prim (shrN (a := 1) (b := 32) (by decide)) ?_
    refine Ev.prim andQ32 ?_
    refine Ev.prim (shrN (a := n) (b := 32) (by decide)) ?_
    rw [show 1 % 4294967296 = 1 from rfl, show 1 / 2 ^ 32 = 0 from rfl, Nat.mod_eq_of_lt (show n < 4294967296 by omega), show n / 2 ^ 32 = 0 by omega]
    refine Ev.prim (mulQ (by omega)) ?_
    refine Ev.prim (mulQ (by omega)) ?_
    rw [Nat.one_mul, Nat.zero_mul]
    refine Ev.prim (shrN (a := n) (b := 32) (by decide)) ?_
    rw [show n / 2 ^ 32 = 0 by omega]
    refine Ev.prim (addQ (by omega)) ?_
    refine Ev.prim andQ32 ?_
    refine Ev.prim (shrN (a := 0) (b := 32) (by decide)) ?_
    refine Ev.prim (mulQ (by omega)) ?_
    refine Ev.prim (addQ (by omega)) ?_
    refine Ev.prim (mulQ (by omega)) ?_
    refine Ev.prim (addQ (by omega)) ?_
    refine Ev.prim (shrN (b := 32) (by decide)) ?_
    refine Ev.prim (addQ (by omega)) ?_
    refine Ev.prim (mulQ (by omega)) ?_
    rw [Nat.one_mul]
    exact Ev.ret (by first | rfl | (rw [Nat.one_mul]))
  refine Ev.b2 key ?_
  rintro _ _ ⟨rfl, rfl⟩
  repeat (first | refine Ev.s ?_ | refine Ev.newC fun _ _ _ => ?_ | refine Ev.boxC fun _ _ _ => ?_ | refine Ev.stC fun _ _ => ?_ | refine Ev.sc (by omega) ?_ | refine Ev.scg (by omega) ?_)
  exact Ev.ret rfl
theorem Repeat_spec {n : Nat} (hn : n ≤ 8192) (hS : St H0 B0 B L H) :
    Ev (fun k _ => rn k 59 [str [0], i64 n] H) (fun r => r.1 = str (List.replicate n 0) ∧ ∃ B', MoC B B' ∧ St H0 B0 B' L r.2) := by
  refine Ev.fn (fun k => f59_eq k _ _ H) ?_
  repeat (first | refine Ev.s ?_ | refine Ev.newC fun _ _ _ => ?_ | refine Ev.boxC fun _ _ _ => ?_ | refine Ev.stC fun _ _ => ?_ | refine Ev.sc (by omega) ?_ | refine Ev.scg (by omega) ?_)
  by_cases h0 : n = 0
  · subst h0
    rw [decide_eq_true rfl]
    repeat (first | refine Ev.s ?_ | refine Ev.newC fun _ _ _ => ?_ | refine Ev.boxC fun _ _ _ => ?_ | refine Ev.stC fun _ _ => ?_ | refine Ev.sc (by omega) ?_ | refine Ev.scg (by omega) ?_)
    exact Ev.ret ⟨rfl, B, ⟨Mo.refl B⟩, hS⟩
  rw [decide_eq_false h0]
  repeat (first | refine Ev.s ?_ | refine Ev.newC fun _ _ _ => ?_ | refine Ev.boxC fun _ _ _ => ?_ | refine Ev.stC fun _ _ => ?_ | refine Ev.sc (by omega) ?_ | refine Ev.scg (by omega) ?_)
  by_cases h1 : n = 1
  · subst h1
    rw [decide_eq_true rfl]
    repeat (first | refine Ev.s ?_ | refine Ev.newC fun _ _ _ => ?_ | refine Ev.boxC fun _ _ _ => ?_ | refine Ev.stC fun _ _ => ?_ | refine Ev.sc (by omega) ?_ | refine Ev.scg (by omega) ?_)
    exact Ev.ret ⟨rfl, B, ⟨Mo.refl B⟩, hS⟩
  rw [decide_eq_false h1]
  repeat (first | refine Ev.s ?_ | refine Ev.newC fun _ _ _ => ?_ | refine Ev.boxC fun _ _ _ => ?_ | refine Ev.stC fun _ _ => ?_ | refine Ev.sc (by omega) ?_ | refine Ev.scg (by omega) ?_)
  rw [decide_eq_false (by omega)]
  repeat (first | refine Ev.s ?_ | refine Ev.newC fun _ _ _ => ?_ | refine Ev.boxC fun _ _ _ => ?_ | refine Ev.stC fun _ _ => ?_ | refine Ev.sc (by omega) ?_ | refine Ev.scg (by omega) ?_)
  refine Ev.eq (fun k _ => f59_J0_eq k _ _ H) ?_
  repeat (first | refine Ev.s ?_ | refine Ev.newC fun _ _ _ => ?_ | refine Ev.boxC fun _ _ _ => ?_ | refine Ev.stC fun _ _ => ?_ | refine Ev.sc (by omega) ?_ | refine Ev.scg (by omega) ?_)
  rw [show ([0] : List UInt8).length = 1 from rfl]
  repeat (first | refine Ev.s ?_ | refine Ev.newC fun _ _ _ => ?_ | refine Ev.boxC fun _ _ _ => ?_ | refine Ev.stC fun _ _ => ?_ | refine Ev.sc (by omega) ?_ | refine Ev.scg (by omega) ?_)
  refine Ev.b2 (Mul_spec (by omega)) ?_
  rintro _ _ ⟨rfl, rfl⟩
  repeat (first | (first | refine Ev.s ?_ | refine Ev.newC fun _ _ _ => ?_ | refine Ev.boxC fun _ _ _ => ?_ | refine Ev.stC fun _ _ => ?_ | refine Ev.sc (by omega) ?_ | refine Ev.scg (by omega) ?_) | rw [decide_eq_true (by omega)] | rw [decide_eq_false (by omega)])
  refine Ev.eq (fun k _ => f59_J1_eq k _ _ H) ?_
  repeat (first | refine Ev.s ?_ | refine Ev.newC fun _ _ _ => ?_ | refine Ev.boxC fun _ _ _ => ?_ | refine Ev.stC fun _ _ => ?_ | refine Ev.sc (by omega) ?_ | refine Ev.scg (by omega) ?_)
  rw [show ([0] : List UInt8).length = 1 from rfl]
  repeat (first | (first | refine Ev.s ?_ | refine Ev.newC fun _ _ _ => ?_ | refine Ev.boxC fun _ _ _ => ?_ | refine Ev.stC fun _ _ => ?_ | refine Ev.sc (by omega) ?_ | refine Ev.scg (by omega) ?_) | rw [decide_eq_true (by omega)] | rw [decide_eq_false (by omega)])
  refine Ev.prim (show ix Tryd.prog 9 (str [0]) (.int .i64 0) = some (u8 0) from ix_str (l := [0]) 0 rfl (by decide)) ?_
  repeat (first | (first | refine Ev.s ?_ | refine Ev.newC fun _ _ _ => ?_ | refine Ev.boxC fun _ _ _ => ?_ | refine Ev.stC fun _ _ => ?_ | refine Ev.sc (by omega) ?_ | refine Ev.scg (by omega) ?_) | rw [decide_eq_true (by omega)] | rw [decide_eq_false (by omega)])
  refine Ev.eq (fun k _ => f59_J2_eq k _ _ H) ?_
  repeat (first | (first | refine Ev.s ?_ | refine Ev.newC fun _ _ _ => ?_ | refine Ev.boxC fun _ _ _ => ?_ | refine Ev.stC fun _ _ => ?_ | refine Ev.sc (by omega) ?_ | refine Ev.scg (by omega) ?_) | rw [decide_eq_true (by omega)] | rw [decide_eq_false (by omega)])
  refine Ev.eq (fun k _ => f59_J3_eq k _ _ _ H) ?_
  refine Ev.newC fun p H1 hS1 => ?_
  clear hS
  refine Ev.b2 (Grow_spec (n := n) (rest := []) bldT_mem bld_sz (by omega) (by omega) hS1) ?_
  rintro _ H2 ⟨rfl, b2, B2, hm2, hA2⟩
  dsimp only at hA2
  refine Ev.b2 (WriteString_spec (l := [0]) (rest := []) bldT_mem bld_sz (.inr rfl) (by decide) hA2) ?_
  rintro _ H3 ⟨rfl, v3, B3, hm3, hA3⟩
  dsimp only at hA3
  refine Ev.bind (Ev.loop (rep_loop (by omega) n 1 B3 H3 v3 (by omega) (by omega) (by omega) hA3)) ?_
  rintro _ ⟨B4, H4, v4, rfl, hm4, hA4⟩
  refine Ev.eq (fun k _ => f59_A0_x3 k _ H4) ?_
  refine Ev.b2 (String_same (by rw [List.length_replicate]; omega) (by intro h; have := congrArg List.length h; simp at this; omega) hA4) ?_
  rintro _ _ ⟨rfl, rfl⟩
  refine Ev.ret ⟨?_, B4, ⟨hm2.mo.trans (hm3.mo.trans hm4.mo)⟩, hA4.st.drop1⟩
  dsimp only
  rw [show (List.replicate n 0).map (fun n => UInt8.ofNat n) = List.replicate n 0 by simp]
end
end Go.AM.C
set_option linter.unusedVariables false
set_option linter.unusedSimpArgs false
set_option maxRecDepth 100000
namespace Go.AM.C
open Go Go.AM Go.Proofs
attribute [local irreducible] run bin un ld st box newV mkS fldA fld ixA ix slc slc3 build buildS cv cvS ap cpy lenV gOp pickV b2 aIf aChk evalK resume iterD Option.bind

section
variable {H : AH}
theorem right_loop : ∀ (m : Nat) (s : List UInt8), s.length = m → s.length < 9223372036854775808 →
    Ev (fun k n => f82_L0 k (str s) (u8 0) n H) (fun o => ∃ w : List UInt8, o = (.exit 0, f82_X_L0 (str w), H) ∧ w.length ≤ s.length ∧ ((∀ c ∈ s, c = 0) ↔ ∀ c ∈ w, c = 0)) := by
  intro m
  induction m with
  | zero =>
    intro s hs hl
    refine Ev.succ (fun k n => f82_L0_succ k _ _ n H) ?_
    repeat (first | refine Ev.s ?_ | refine Ev.newC fun _ _ _ => ?_ | refine Ev.boxC fun _ _ _ => ?_ | refine Ev.stC fun _ _ => ?_ | refine Ev.sc (by omega) ?_ | refine Ev.scg (by omega) ?_)
    rw [decide_eq_false (by omega)]
    repeat (first | refine Ev.s ?_ | refine Ev.newC fun _ _ _ => ?_ | refine Ev.boxC fun _ _ _ => ?_ | refine Ev.stC fun _ _ => ?_ | refine Ev.sc (by omega) ?_ | refine Ev.scg (by omega) ?_)
    exact Ev.ret ⟨s, rfl, Nat.le_refl _, Iff.rfl⟩
  | succ m ih =>
    intro s hs hl
    refine Ev.succ (fun k n => f82_L0_succ k _ _ n H) ?_
    repeat (first | refine Ev.s ?_ | refine Ev.newC fun _ _ _ => ?_ | refine Ev.boxC fun _ _ _ => ?_ | refine Ev.stC fun _ _ => ?_ | refine Ev.sc (by omega) ?_ | refine Ev.scg (by omega) ?_)
    rw [decide_eq_true (by omega)]
    repeat (first | refine Ev.s ?_ | refine Ev.newC fun _ _ _ => ?_ | refine Ev.boxC fun _ _ _ => ?_ | refine Ev.stC fun _ _ => ?_ | refine Ev.sc (by omega) ?_ | refine Ev.scg (by omega) ?_)
    refine Ev.gPrim (ix_str (s.length - 1) rfl (by omega)) rfl ?_
    repeat (first | refine Ev.s ?_ | refine Ev.newC fun _ _ _ => ?_ | refine Ev.boxC fun _ _ _ => ?_ | refine Ev.stC fun _ _ => ?_ | refine Ev.sc (by omega) ?_ | refine Ev.scg (by omega) ?_)
    by_cases h0 : (s.getD (s.length - 1) 0).toNat = 0
    · rw [decide_eq_true h0]
      repeat (first | refine Ev.s ?_ | refine Ev.newC fun _ _ _ => ?_ | refine Ev.boxC fun _ _ _ => ?_ | refine Ev.stC fun _ _ => ?_ | refine Ev.sc (by omega) ?_ | refine Ev.scg (by omega) ?_)
      refine Ev.prim (slc_strT (l := s) (i := s.length - 1) (by omega)) ?_
      refine (ih (s.take (s.length - 1)) (by rw [List.length_take]; omega) (by rw [List.length_take]; omega)).mono ?_
      rintro o ⟨w, h1, h2, h3⟩
      refine ⟨w, h1, by rw [List.length_take] at h2; omega, Iff.trans ?_ h3⟩
      have e : s = s.take (s.length - 1) ++ [s.getD (s.length - 1) 0] := by
        conv => lhs; rw [← List.take_append_drop (s.length - 1) s]
        rw [drop_getD (by omega), List.drop_of_length_le (by omega)]
      have h00 : s.getD (s.length - 1) 0 = 0 := UInt8.toNat_inj.1 h0
      rw [h00] at e
      constructor
      · intro h c hc
        exact h c (List.mem_of_mem_take hc)
      · intro h c hc
        rw [e] at hc
        rcases List.mem_append.1 hc with hc | hc
        · exact h c hc
        · simpa using hc
    · rw [decide_eq_false h0]
      repeat (first | refine Ev.s ?_ | refine Ev.newC fun _ _ _ => ?_ | refine Ev.boxC fun _ _ _ => ?_ | refine Ev.stC fun _ _ => ?_ | refine Ev.sc (by omega) ?_ | refine Ev.scg (by omega) ?_)
      exact Ev.ret ⟨s, rfl, Nat.le_refl _, Iff.rfl⟩
theorem left_loop : ∀ (m : Nat) (s : List UInt8), s.length = m → s.length < 9223372036854775808 →
    Ev (fun k n => f81_L0 k (str s) (u8 0) n H) (fun o => ∃ w : List UInt8, o = (.exit 0, f81_X_L0 (str w), H) ∧ ((∀ c ∈ s, c = 0) ↔ w = [])) := by
  intro m
  induction m with
  | zero =>
    intro s hs hl
    refine Ev.succ (fun k n => f81_L0_succ k _ _ n H) ?_
    repeat (first | refine Ev.s ?_ | refine Ev.newC fun _ _ _ => ?_ | refine Ev.boxC fun _ _ _ => ?_ | refine Ev.stC fun _ _ => ?_ | refine Ev.sc (by omega) ?_ | refine Ev.scg (by omega) ?_)
    rw [decide_eq_false (by omega)]
    repeat (first | refine Ev.s ?_ | refine Ev.newC fun _ _ _ => ?_ | refine Ev.boxC fun _ _ _ => ?_ | refine Ev.stC fun _ _ => ?_ | refine Ev.sc (by omega) ?_ | refine Ev.scg (by omega) ?_)
    obtain rfl := List.length_eq_zero_iff.1 hs
    exact Ev.ret ⟨[], rfl, by simp⟩
  | succ m ih =>
    intro s hs hl
    refine Ev.succ (fun k n => f81_L0_succ k _ _ n H) ?_
    repeat (first | refine Ev.s ?_ | refine Ev.newC fun _ _ _ => ?_ | refine Ev.boxC fun _ _ _ => ?_ | refine Ev.stC fun _ _ => ?_ | refine Ev.sc (by omega) ?_ | refine Ev.scg (by omega) ?_)
    rw [decide_eq_true (by omega)]
    repeat (first | refine Ev.s ?_ | refine Ev.newC fun _ _ _ => ?_ | refine Ev.boxC fun _ _ _ => ?_ | refine Ev.stC fun _ _ => ?_ | refine Ev.sc (by omega) ?_ | refine Ev.scg (by omega) ?_)
    match s, hs, hl with
    | c :: r, hs, hl =>
      refine Ev.gPrim (show ix Tryd.prog 9 (str (c :: r)) (.int .i64 0) = some (u8 c.toNat) from ix_str (l := c :: r) 0 rfl (by simp)) rfl ?_
      repeat (first | refine Ev.s ?_ | refine Ev.newC fun _ _ _ => ?_ | refine Ev.boxC fun _ _ _ => ?_ | refine Ev.stC fun _ _ => ?_ | refine Ev.sc (by omega) ?_ | refine Ev.scg (by omega) ?_)
      by_cases h0 : c.toNat = 0
      · rw [decide_eq_true h0]
        repeat (first | refine Ev.s ?_ | refine Ev.newC fun _ _ _ => ?_ | refine Ev.boxC fun _ _ _ => ?_ | refine Ev.stC fun _ _ => ?_ | refine Ev.sc (by omega) ?_ | refine Ev.scg (by omega) ?_)
        refine Ev.prim (show slc Tryd.prog 9 (str (c :: r)) (some (.int .i64 1)) none = some (str r) from slc_str (l := c :: r) 1 rfl (by simp)) ?_
        simp only [List.length_cons] at hs hl
        refine (ih r (by omega) (by omega)).mono ?_
        rintro o ⟨w, h1, h3⟩
        refine ⟨w, h1, Iff.trans ?_ h3⟩
        have h00 : c = 0 := UInt8.toNat_inj.1 h0
        subst h00
        simp
      · rw [decide_eq_false h0]
        repeat (first | refine Ev.s ?_ | refine Ev.newC fun _ _ _ => ?_ | refine Ev.boxC fun _ _ _ => ?_ | refine Ev.stC fun _ _ => ?_ | refine Ev.sc (by omega) ?_ | refine Ev.scg (by omega) ?_)
        refine Ev.ret ⟨c :: r, rfl, ?_⟩
        constructor
        · intro h
          exact absurd (by rw [h c (.head _)]; rfl) h0
        · intro h; cases h
theorem Trim_spec {s : List UInt8} (hl : s.length < 9223372036854775808) : Ev (fun k _ => rn k 78 [str s, str [0]] H) (fun r => ∃ w, r = (str w, H) ∧ ((∀ c ∈ s, c = 0) ↔ w = [])) := by
  refine Ev.fn (fun k => f78_eq k _ _ H) ?_
  by_cases hs : s = []
  · subst hs
    refine Ev.prim (show bin Tryd.prog .eql 9 (str []) (.string ⟨#[]⟩) = some (.bool true) from eql_str.trans (by simp)) ?_
    repeat (first | refine Ev.s ?_ | refine Ev.newC fun _ _ _ => ?_ | refine Ev.boxC fun _ _ _ => ?_ | refine Ev.stC fun _ _ => ?_ | refine Ev.sc (by omega) ?_ | refine Ev.scg (by omega) ?_)
    exact Ev.ret ⟨[], rfl, by simp⟩
  · refine Ev.prim (show bin Tryd.prog .eql 9 (str s) (.string ⟨#[]⟩) = some (.bool false) from (eql_str (b := [])).trans (by simp [hs])) ?_
    repeat (first | refine Ev.s ?_ | refine Ev.newC fun _ _ _ => ?_ | refine Ev.boxC fun _ _ _ => ?_ | refine Ev.stC fun _ _ => ?_ | refine Ev.sc (by omega) ?_ | refine Ev.scg (by omega) ?_)
    rw [decide_eq_false (by simp)]
    repeat (first | (first | refine Ev.s ?_ | refine Ev.newC fun _ _ _ => ?_ | refine Ev.boxC fun _ _ _ => ?_ | refine Ev.stC fun _ _ => ?_ | refine Ev.sc (by omega) ?_ | refine Ev.scg (by omega) ?_) | rw [decide_eq_true (by omega)] | rw [decide_eq_false (by omega)])
    refine Ev.gPrim (show ix Tryd.prog 9 (str [0]) (.int .i64 0) = some (u8 0) from ix_str (l := [0]) 0 rfl (by decide)) rfl ?_
    repeat (first | (first | refine Ev.s ?_ | refine Ev.newC fun _ _ _ => ?_ | refine Ev.boxC fun _ _ _ => ?_ | refine Ev.stC fun _ _ => ?_ | refine Ev.sc (by omega) ?_ | refine Ev.scg (by omega) ?_) | rw [decide_eq_true (by omega)] | rw [decide_eq_false (by omega)])
    refine Ev.prim (show ix Tryd.prog 9 (str [0]) (.int .i64 0) = some (u8 0) from ix_str (l := [0]) 0 rfl (by decide)) ?_
    have h1 : Ev (fun k _ => rn k 82 [str s, u8 0] H) (fun r => ∃ w : List UInt8, r = (str w, H) ∧ w.length ≤ s.length ∧ ((∀ c ∈ s, c = 0) ↔ ∀ c ∈ w, c = 0)) := by
      refine Ev.fn (fun k => f82_eq k _ _ H) ?_
      refine Ev.bind (Ev.loop (right_loop _ s rfl hl)) ?_
      rintro _ ⟨w, rfl, h⟩
      refine Ev.eq (fun k _ => f82_A0_x0 k _ H) ?_
      exact Ev.ret ⟨w, rfl, h⟩
    refine Ev.b2 h1 ?_
    rintro _ _ ⟨w, ⟨rfl, rfl⟩, h2, h3⟩
    refine Ev.prim (show ix Tryd.prog 9 (str [0]) (.int .i64 0) = some (u8 0) from ix_str (l := [0]) 0 rfl (by decide)) ?_
    have h4 : Ev (fun k _ => rn k 81 [str w, u8 0] H) (fun r => ∃ w2 : List UInt8, r = (str w2, H) ∧ ((∀ c ∈ w, c = 0) ↔ w2 = [])) := by
      refine Ev.fn (fun k => f81_eq k _ _ H) ?_
      refine Ev.bind (Ev.loop (left_loop _ w rfl (by omega))) ?_
      rintro _ ⟨w2, rfl, h⟩
      refine Ev.eq (fun k _ => f81_A0_x0 k _ H) ?_
      exact Ev.ret ⟨w2, rfl, h⟩
    refine Ev.b2 h4 ?_
    rintro _ _ ⟨w2, ⟨rfl, rfl⟩, h5⟩
    exact Ev.ret ⟨w2, rfl, h3.trans h5⟩
theorem HasPrefix_spec {s p : List UInt8} (hl : s.length < 9223372036854775808) (hp : p.length ≤ s.length) : Ev (fun k _ => rn k 67 [str s, str p] H) (fun r => r = (.bool (decide (s.take p.length = p)), H)) := by
  refine Ev.fn (fun k => f67_eq k _ _ H) ?_
  have key : Ev (fun k _ => rn k 75 [str s, str p] H) (fun r => r = (.bool (decide (s.take p.length = p)), H)) := by
    refine Ev.fn (fun k => f75_eq k _ _ H) ?_
    repeat (first | refine Ev.s ?_ | refine Ev.newC fun _ _ _ => ?_ | refine Ev.boxC fun _ _ _ => ?_ | refine Ev.stC fun _ _ => ?_ | refine Ev.sc (by omega) ?_ | refine Ev.scg (by omega) ?_)
    rw [decide_eq_true (by omega)]
    repeat (first | refine Ev.s ?_ | refine Ev.newC fun _ _ _ => ?_ | refine Ev.boxC fun _ _ _ => ?_ | refine Ev.stC fun _ _ => ?_ | refine Ev.sc (by omega) ?_ | refine Ev.scg (by omega) ?_)
    refine Ev.gPrim (slc_strT (l := s) (i := p.length) (by omega)) rfl ?_
    repeat (first | refine Ev.s ?_ | refine Ev.newC fun _ _ _ => ?_ | refine Ev.boxC fun _ _ _ => ?_ | refine Ev.stC fun _ _ => ?_ | refine Ev.sc (by omega) ?_ | refine Ev.scg (by omega) ?_)
    exact Ev.ret rfl
  refine Ev.b2 key ?_
  rintro _ _ ⟨rfl, rfl⟩
  exact Ev.ret rfl
end
end Go.AM.C
set_option linter.unusedVariables false
set_option linter.unusedSimpArgs false
set_option maxRecDepth 100000
namespace Go.AM.C
open Go Go.AM Go.Proofs
attribute [local irreducible] run bin un ld st box newV mkS fldA fld ixA ix slc slc3 build buildS cv cvS ap cpy lenV gOp pickV b2 aIf aChk evalK resume iterD Option.bind

section
variable {B B0 H0 H : AH} {L : List (Nat × Blk)}
/-- The answer of a seal. -/
def SealV (p : List UInt8 × Int) : Value := .tuple #[str p.1, .int .i64 p.2]
theorem le4_len (n : Nat) : (le4 n).length = 4 := rfl
theorem Seal_spec {kind : Int} {t : List UInt8} (ht : t.length < 9223372036854775808) (hk : -9223372036854775808 ≤ kind ∧ kind < 9223372036854775808) (hS : St H0 B0 B L H) :
    Ev (fun k _ => rn k 47 [.int .i64 kind, str t] H) (fun r => r.1 = SealV (sealR kind t) ∧ ∃ B', MoC B B' ∧ St H0 B0 B' L r.2) := by
  refine Ev.fn (fun k => f47_eq k _ _ H) ?_
  unfold sealR
  by_cases h1 : kind < 1
  · rw [if_pos (.inl h1)]
    repeat (first | (first | refine Ev.s ?_ | refine Ev.newC fun _ _ _ => ?_ | refine Ev.boxC fun _ _ _ => ?_ | refine Ev.stC fun _ _ => ?_ | refine Ev.sc (by omega) ?_ | refine Ev.scg (by omega) ?_) | rw [decide_eq_true (by omega)] | rw [decide_eq_false (by omega)])
    exact Ev.ret ⟨rfl, B, ⟨Mo.refl B⟩, hS⟩
  by_cases h2 : kind > 9
  · rw [if_pos (.inr (.inl h2))]
    repeat (first | (first | refine Ev.s ?_ | refine Ev.newC fun _ _ _ => ?_ | refine Ev.boxC fun _ _ _ => ?_ | refine Ev.stC fun _ _ => ?_ | refine Ev.sc (by omega) ?_ | refine Ev.scg (by omega) ?_) | rw [decide_eq_true (by omega)] | rw [decide_eq_false (by omega)])
    exact Ev.ret ⟨rfl, B, ⟨Mo.refl B⟩, hS⟩
  by_cases h3 : t.length > 120
  · rw [if_pos (.inr (.inr h3))]
    repeat (first | (first | refine Ev.s ?_ | refine Ev.newC fun _ _ _ => ?_ | refine Ev.boxC fun _ _ _ => ?_ | refine Ev.stC fun _ _ => ?_ | refine Ev.sc (by omega) ?_ | refine Ev.scg (by omega) ?_) | rw [decide_eq_true (by omega)] | rw [decide_eq_false (by omega)])
    exact Ev.ret ⟨rfl, B, ⟨Mo.refl B⟩, hS⟩
  rw [if_neg (by omega)]
  obtain ⟨n, rfl⟩ : ∃ n : Nat, kind = n := ⟨kind.toNat, by omega⟩
  rw [Int.toNat_natCast]
  repeat (first | (first | refine Ev.s ?_ | refine Ev.newC fun _ _ _ => ?_ | refine Ev.boxC fun _ _ _ => ?_ | refine Ev.stC fun _ _ => ?_ | refine Ev.sc (by omega) ?_ | refine Ev.scg (by omega) ?_) | rw [decide_eq_true (by omega)] | rw [decide_eq_false (by omega)])
  rw [Nat.mod_eq_of_lt (show n < 4294967296 by omega), Nat.mod_eq_of_lt (show t.length < 4294967296 by omega)]
  refine Ev.bsC (P := Tryd.prog) (t := 124) (hS := hS) (by decide) fun b H1 hS1 => ?_
  obtain ⟨B1, hm1, hF, hS2⟩ := St.flz (l := [n, t.length]) (f := u32) (cap := 2) hS1 (Nat.le_refl _)
  clear hS hS1
  refine Ev.b2 (bytes_spec hF (by simp) (by simp) hS2) ?_
  rintro _ H2 ⟨rfl, B2, hm2, hS3⟩
  dsimp only at hS3
  clear hS2
  refine Ev.prim (add_str (a := [65, 83]) (b := [n, t.length].map UInt8.ofNat) (by simp)) ?_
  refine Ev.prim (add_str (a := [65, 83] ++ [n, t.length].map UInt8.ofNat) (b := t) (by simp; omega)) ?_
  obtain ⟨hd, hhd⟩ : ∃ hd : List UInt8, hd = [65, 83] ++ [n, t.length].map UInt8.ofNat ++ t := ⟨_, rfl⟩
  have hdl : hd.length = 4 + t.length := by rw [hhd, List.length_append]; rfl
  rw [← hhd]
  repeat (first | refine Ev.s ?_ | refine Ev.newC fun _ _ _ => ?_ | refine Ev.boxC fun _ _ _ => ?_ | refine Ev.stC fun _ _ => ?_ | refine Ev.sc (by omega) ?_ | refine Ev.scg (by omega) ?_)
  rw [hdl]
  rw [show 124 - (4 + t.length) = 120 - t.length by omega]
  refine Ev.b2 (Repeat_spec (n := 120 - t.length) (by omega) hS3) ?_
  rintro _ H3 ⟨rfl, B3, hm3, hS4⟩
  dsimp only at hS4
  clear hS3
  refine Ev.prim (add_str (a := hd) (b := List.replicate (120 - t.length) 0) (by rw [List.length_replicate]; omega)) ?_
  have hb : hd ++ List.replicate (120 - t.length) 0 = bodyL n t := by rw [hhd]; rfl
  have hbl := body_len (k := n) (t := t) (by omega)
  rw [hb]
  refine Ev.b2 (psum_spec (by rw [hbl]; decide) hS4) ?_
  rintro _ H4 ⟨rfl, B4, hm4, hS5⟩
  dsimp only at hS5
  refine Ev.prim (add_str (a := bodyL n t) (b := le4 (crc (bodyL n t))) (by rw [hbl, le4_len]; decide)) ?_
  exact Ev.ret ⟨rfl, B4, ⟨hm1.mo.trans (hm2.mo.trans (hm3.mo.trans hm4.mo))⟩, hS5⟩
def OpenV (p : Int × List UInt8 × Int) : Value := .tuple #[.int .i64 p.1, str p.2.1, .int .i64 p.2.2]
theorem Open_spec {b : List UInt8} (hl : b.length < 9223372036854775808) (hS : St H0 B0 B L H) :
    Ev (fun k _ => rn k 72 [str b] H) (fun r => r.1 = OpenV (openR b) ∧ ∃ B', MoC B B' ∧ St H0 B0 B' L r.2) := by
  refine Ev.fn (fun k => f72_eq k _ H) ?_
  unfold openR
  repeat (first | refine Ev.s ?_ | refine Ev.newC fun _ _ _ => ?_ | refine Ev.boxC fun _ _ _ => ?_ | refine Ev.stC fun _ _ => ?_ | refine Ev.sc (by omega) ?_ | refine Ev.scg (by omega) ?_)
  by_cases h1 : b.length = 128
  case neg =>
    rw [if_pos h1, decide_eq_true h1]
    repeat (first | refine Ev.s ?_ | refine Ev.newC fun _ _ _ => ?_ | refine Ev.boxC fun _ _ _ => ?_ | refine Ev.stC fun _ _ => ?_ | refine Ev.sc (by omega) ?_ | refine Ev.scg (by omega) ?_)
    exact Ev.ret ⟨rfl, B, ⟨Mo.refl B⟩, hS⟩
  rw [if_neg (by omega), decide_eq_false (by omega)]
  repeat (first | refine Ev.s ?_ | refine Ev.newC fun _ _ _ => ?_ | refine Ev.boxC fun _ _ _ => ?_ | refine Ev.stC fun _ _ => ?_ | refine Ev.sc (by omega) ?_ | refine Ev.scg (by omega) ?_)
  refine Ev.prim (show slc Tryd.prog 9 (str b) none (some (.int .i64 124)) = some (str (b.take 124)) from slc_strT (l := b) (i := 124) (by omega)) ?_
  refine Ev.prim (show ix Tryd.prog 9 (str b) (.int .i64 3) = some (u8 (b.getD 3 0).toNat) from ix_str 3 rfl (by omega)) ?_
  have hn3 := u8_lt (b.getD 3 0)
  have hn2 := u8_lt (b.getD 2 0)
  repeat (first | refine Ev.s ?_ | refine Ev.newC fun _ _ _ => ?_ | refine Ev.boxC fun _ _ _ => ?_ | refine Ev.stC fun _ _ => ?_ | refine Ev.sc (by omega) ?_ | refine Ev.scg (by omega) ?_)
  refine Ev.b2 (psum_spec (by rw [List.length_take]; omega) hS) ?_
  rintro _ H1 ⟨rfl, B1, hm1, hS1⟩
  dsimp only at hS1
  clear hS
  refine Ev.prim (show slc Tryd.prog 9 (str b) (some (.int .i64 124)) none = some (str (b.drop 124)) from slc_str (l := b) 124 rfl (by omega)) ?_
  repeat (first | refine Ev.s ?_ | refine Ev.newC fun _ _ _ => ?_ | refine Ev.boxC fun _ _ _ => ?_ | refine Ev.stC fun _ _ => ?_ | refine Ev.sc (by omega) ?_ | refine Ev.scg (by omega) ?_)
  by_cases h2 : le4 (crc (b.take 124)) = b.drop 124
  case neg =>
    rw [if_pos h2, decide_eq_true h2]
    repeat (first | refine Ev.s ?_ | refine Ev.newC fun _ _ _ => ?_ | refine Ev.boxC fun _ _ _ => ?_ | refine Ev.stC fun _ _ => ?_ | refine Ev.sc (by omega) ?_ | refine Ev.scg (by omega) ?_)
    exact Ev.ret ⟨rfl, B1, hm1, hS1⟩
  rw [if_neg (by simpa using h2), decide_eq_false (by simpa using h2)]
  repeat (first | refine Ev.s ?_ | refine Ev.newC fun _ _ _ => ?_ | refine Ev.boxC fun _ _ _ => ?_ | refine Ev.stC fun _ _ => ?_ | refine Ev.sc (by omega) ?_ | refine Ev.scg (by omega) ?_)
  refine Ev.b2 (HasPrefix_spec (s := b) (p := [65, 83]) (by omega) (by rw [h1]; decide)) ?_
  rintro _ _ ⟨rfl, rfl⟩
  rw [show ([65, 83] : List UInt8).length = 2 from rfl]
  have bad : ¬ Body b → Ev (fun _ _ => some (Value.tuple #[.int .i64 0, .string ⟨#[]⟩, .int .i64 2], H1)) (fun r => r.1 = OpenV (if Body b then (((b.getD 2 0).toNat : Int), (b.drop 4).take (b.getD 3 0).toNat, 0) else (0, [], 2)) ∧ ∃ B', MoC B B' ∧ St H0 B0 B' L r.2) := by
    intro h
    rw [if_neg h]
    exact Ev.ret ⟨rfl, B1, hm1, hS1⟩
  by_cases h3 : b.take 2 = [65, 83]
  case neg =>
    rw [decide_eq_false h3]
    repeat (first | refine Ev.s ?_ | refine Ev.newC fun _ _ _ => ?_ | refine Ev.boxC fun _ _ _ => ?_ | refine Ev.stC fun _ _ => ?_ | refine Ev.sc (by omega) ?_ | refine Ev.scg (by omega) ?_)
    exact bad fun h => h3 h.1
  rw [decide_eq_true h3]
  repeat (first | refine Ev.s ?_ | refine Ev.newC fun _ _ _ => ?_ | refine Ev.boxC fun _ _ _ => ?_ | refine Ev.stC fun _ _ => ?_ | refine Ev.sc (by omega) ?_ | refine Ev.scg (by omega) ?_)
  refine Ev.gPrim (show ix Tryd.prog 9 (str b) (.int .i64 2) = some (u8 (b.getD 2 0).toNat) from ix_str 2 rfl (by omega)) rfl ?_
  repeat (first | refine Ev.s ?_ | refine Ev.newC fun _ _ _ => ?_ | refine Ev.boxC fun _ _ _ => ?_ | refine Ev.stC fun _ _ => ?_ | refine Ev.sc (by omega) ?_ | refine Ev.scg (by omega) ?_)
  by_cases h4 : 1 ≤ (b.getD 2 0).toNat
  case neg =>
    repeat (first | (first | refine Ev.s ?_ | refine Ev.newC fun _ _ _ => ?_ | refine Ev.boxC fun _ _ _ => ?_ | refine Ev.stC fun _ _ => ?_ | refine Ev.sc (by omega) ?_ | refine Ev.scg (by omega) ?_) | rw [decide_eq_true (by omega)] | rw [decide_eq_false (by omega)])
    exact bad fun h => h4 h.2.1
  rw [decide_eq_false (by omega)]
  repeat (first | refine Ev.s ?_ | refine Ev.newC fun _ _ _ => ?_ | refine Ev.boxC fun _ _ _ => ?_ | refine Ev.stC fun _ _ => ?_ | refine Ev.sc (by omega) ?_ | refine Ev.scg (by omega) ?_)
  refine Ev.gPrim (show ix Tryd.prog 9 (str b) (.int .i64 2) = some (u8 (b.getD 2 0).toNat) from ix_str 2 rfl (by omega)) rfl ?_
  repeat (first | refine Ev.s ?_ | refine Ev.newC fun _ _ _ => ?_ | refine Ev.boxC fun _ _ _ => ?_ | refine Ev.stC fun _ _ => ?_ | refine Ev.sc (by omega) ?_ | refine Ev.scg (by omega) ?_)
  by_cases h5 : (b.getD 2 0).toNat ≤ 9
  case neg =>
    repeat (first | (first | refine Ev.s ?_ | refine Ev.newC fun _ _ _ => ?_ | refine Ev.boxC fun _ _ _ => ?_ | refine Ev.stC fun _ _ => ?_ | refine Ev.sc (by omega) ?_ | refine Ev.scg (by omega) ?_) | rw [decide_eq_true (by omega)] | rw [decide_eq_false (by omega)])
    exact bad fun h => h5 h.2.2.1
  rw [decide_eq_false (by omega)]
  repeat (first | refine Ev.s ?_ | refine Ev.newC fun _ _ _ => ?_ | refine Ev.boxC fun _ _ _ => ?_ | refine Ev.stC fun _ _ => ?_ | refine Ev.sc (by omega) ?_ | refine Ev.scg (by omega) ?_)
  by_cases h6 : (b.getD 3 0).toNat ≤ 120
  case neg =>
    repeat (first | (first | refine Ev.s ?_ | refine Ev.newC fun _ _ _ => ?_ | refine Ev.boxC fun _ _ _ => ?_ | refine Ev.stC fun _ _ => ?_ | refine Ev.sc (by omega) ?_ | refine Ev.scg (by omega) ?_) | rw [decide_eq_true (by omega)] | rw [decide_eq_false (by omega)])
    exact bad fun h => h6 h.2.2.2.1
  repeat (first | (first | refine Ev.s ?_ | refine Ev.newC fun _ _ _ => ?_ | refine Ev.boxC fun _ _ _ => ?_ | refine Ev.stC fun _ _ => ?_ | refine Ev.sc (by omega) ?_ | refine Ev.scg (by omega) ?_) | rw [decide_eq_true (by omega)] | rw [decide_eq_false (by omega)])
  generalize hn : (b.getD 3 0).toNat = n at *
  refine Ev.gPrim (slc_str (l := b.take 124) (4 + n) rfl (by rw [List.length_take]; omega)) rfl ?_
  repeat (first | (first | refine Ev.s ?_ | refine Ev.newC fun _ _ _ => ?_ | refine Ev.boxC fun _ _ _ => ?_ | refine Ev.stC fun _ _ => ?_ | refine Ev.sc (by omega) ?_ | refine Ev.scg (by omega) ?_) | rw [decide_eq_true (by omega)] | rw [decide_eq_false (by omega)])
  refine Ev.b2 (Trim_spec (s := (b.take 124).drop (4 + n)) (by rw [List.length_drop, List.length_take]; omega)) ?_
  rintro _ _ ⟨w, ⟨rfl, rfl⟩, hw⟩
  repeat (first | refine Ev.s ?_ | refine Ev.newC fun _ _ _ => ?_ | refine Ev.boxC fun _ _ _ => ?_ | refine Ev.stC fun _ _ => ?_ | refine Ev.sc (by omega) ?_ | refine Ev.scg (by omega) ?_)
  by_cases h7 : w = []
  case neg =>
    rw [decide_eq_true h7]
    repeat (first | (first | refine Ev.s ?_ | refine Ev.newC fun _ _ _ => ?_ | refine Ev.boxC fun _ _ _ => ?_ | refine Ev.stC fun _ _ => ?_ | refine Ev.sc (by omega) ?_ | refine Ev.scg (by omega) ?_) | rw [decide_eq_true (by omega)] | rw [decide_eq_false (by omega)])
    exact bad fun h => h7 (hw.1 (by have := h.2.2.2.2; rwa [hn] at this))
  rw [decide_eq_false (by simpa using h7)]
  have hB : Body b := ⟨h3, h4, h5, by rw [hn]; exact h6, by rw [hn]; exact hw.2 h7⟩
  repeat (first | refine Ev.s ?_ | refine Ev.newC fun _ _ _ => ?_ | refine Ev.boxC fun _ _ _ => ?_ | refine Ev.stC fun _ _ => ?_ | refine Ev.sc (by omega) ?_ | refine Ev.scg (by omega) ?_)
  refine Ev.prim (show ix Tryd.prog 9 (str b) (.int .i64 2) = some (u8 (b.getD 2 0).toNat) from ix_str 2 rfl (by omega)) ?_
  repeat (first | refine Ev.s ?_ | refine Ev.newC fun _ _ _ => ?_ | refine Ev.boxC fun _ _ _ => ?_ | refine Ev.stC fun _ _ => ?_ | refine Ev.sc (by omega) ?_ | refine Ev.scg (by omega) ?_)
  refine Ev.prim (slc_str2 (l := b.take 124) 4 (4 + n) rfl rfl (by omega) (by rw [List.length_take]; omega)) ?_
  rw [if_pos hB]
  refine Ev.ret ⟨?_, B1, hm1, hS1⟩
  show Value.tuple #[_, str _, _] = OpenV _
  rw [List.drop_take, List.take_take, show min (4 + n - 4) (124 - 4) = n by omega]
  rfl
end
end Go.AM.C
set_option linter.unusedVariables false
set_option linter.unusedSimpArgs false
set_option maxRecDepth 100000
namespace Go.AM.C
open Go Go.AM Go.Proofs
attribute [local irreducible] run bin un ld st box newV mkS fldA fld ixA ix slc slc3 build buildS cv cvS ap cpy lenV gOp pickV b2 aIf aChk evalK resume iterD Option.bind

section
variable {B B0 H0 H : AH} {L : List (Nat × Blk)}
abbrev DK := IsDisk 58 5 84
/-- Behind a call that leaves a disk. -/
def DkP (H0 B0 B : AH) (L : List (Nat × Blk)) (p v : Value) (D : Dsk) (r : Value × AH) : Prop := r.1 = v ∧ ∃ Ls B', MoC B B' ∧ DK p D Ls ∧ St H0 B0 B' (Ls ++ L) r.2
theorem Sectors_spec {p : Value} {D : Dsk} {Ls Lx : List (Nat × Blk)} (hD : DK p D Ls) (hO : D.OK) (hS : St H0 B0 B Lx H) (hsub : ∀ x ∈ Ls, x ∈ Lx) :
    Ev (fun k _ => rn k 33 [p] H) (fun r => r = (i64 D.n, H)) := by
  obtain ⟨d, bb, cv, Lc, rfl, hG, rfl⟩ := hD
  have hi : InL d ⟨[sl bb 0 (64 * D.n) (64 * D.n), cv, .int .i64 D.fuse, .bool D.down], 58, .fix⟩ Lx := ⟨hsub _ (.head _)⟩
  refine Ev.fn (fun k => f33_eq k _ H) ?_
  have h1 := hO.n1
  have h2 := hO.n2
  repeat (first | refine Ev.s ?_ | refine Ev.newC fun _ _ _ => ?_ | refine Ev.boxC fun _ _ _ => ?_ | refine Ev.stC fun _ _ => ?_ | refine Ev.sc (by omega) ?_ | refine Ev.scg (by omega) ?_)
  have : 64 * D.n / 64 = D.n := by omega
  rw [this]
  exact Ev.ret rfl
theorem lay_spec {d bb n a : Nat} {cv x y : Value} {bs s : List UInt8} (h2 : n ≤ 1024) (hl : bs.length = 64 * n) (ha : a < n) (hs : s.length ≤ 64)
    (hS : St H0 B0 B ((d, ⟨[sl bb 0 (64 * n) (64 * n), cv, x, y], 58, .fix⟩) :: (bb, ⟨byts bs, 5, .fix⟩) :: L) H) :
    Ev (fun k _ => rn k 38 [ptr d 0, i64 a, str s] H) (fun r => r.1 = .tuple #[] ∧ St H0 B0 B ((d, ⟨[sl bb 0 (64 * n) (64 * n), cv, x, y], 58, .fix⟩) :: (bb, ⟨byts (layB bs a s), 5, .fix⟩) :: L) r.2) := by
  refine Ev.fn (fun k => f38_eq k _ _ _ H) ?_
  repeat (first | refine Ev.s ?_ | refine Ev.newC fun _ _ _ => ?_ | refine Ev.boxC fun _ _ _ => ?_ | refine Ev.stC fun _ _ => ?_ | refine Ev.sc (by omega) ?_ | refine Ev.scg (by omega) ?_)
  refine Ev.prim (slc_own (t := 55) (by omega)) ?_
  rw [if_neg (by omega)]
  refine Ev.cpyStr (t := 55) hS (.tail _ (.head _)) (by omega) (by rw [byts_len]; omega) rfl (.tail _ (.head _)) fun H' hS' => ?_
  refine Ev.ret ⟨rfl, ?_⟩
  rw [byts_lay, Nat.mul_comm 64 a]
  exact hS'
theorem act_spec {d : Nat} {bv cv f : Value} {fu : Int} {dn : Bool} {Q : Value × AH → Prop} (hfu : -1 ≤ fu ∧ fu < 9223372036854775808) (hS : St H0 B0 B ((d, ⟨[bv, cv, .int .i64 fu, .bool dn], 58, .fix⟩) :: L) H)
    (h0 : fu = 0 → ∀ H', St H0 B0 B ((d, ⟨[bv, cv, .int .i64 fu, .bool true], 58, .fix⟩) :: L) H' → Q (.int .i64 7, H'))
    (h1 : fu ≠ 0 → ∀ H', St H0 B0 B ((d, ⟨[bv, cv, .int .i64 (max (fu - 1) (-1)), .bool dn], 58, .fix⟩) :: L) H' → Ev (fun k _ => callY (rn k) f [] H') (fun r => Q (.int .i64 0, r.2))) :
    Ev (fun k _ => rn k 36 [ptr d 0, f] H) Q := by
  refine Ev.fn (fun k => f36_eq k _ _ H) ?_
  repeat (first | refine Ev.s ?_ | refine Ev.newC fun _ _ _ => ?_ | refine Ev.boxC fun _ _ _ => ?_ | refine Ev.stC fun _ _ => ?_ | refine Ev.sc (by omega) ?_ | refine Ev.scg (by omega) ?_)
  by_cases hf : fu = 0
  · rw [decide_eq_true hf]
    repeat (first | refine Ev.s ?_ | refine Ev.newC fun _ _ _ => ?_ | refine Ev.boxC fun _ _ _ => ?_ | refine Ev.stC fun _ _ => ?_ | refine Ev.sc (by omega) ?_ | refine Ev.scg (by omega) ?_)
    exact Ev.ret (h0 hf _ (by assumption))
  · rw [decide_eq_false hf]
    repeat (first | refine Ev.s ?_ | refine Ev.newC fun _ _ _ => ?_ | refine Ev.boxC fun _ _ _ => ?_ | refine Ev.stC fun _ _ => ?_ | refine Ev.sc (by omega) ?_ | refine Ev.scg (by omega) ?_)
    rename_i H1 hS1
    rw [show (if -1 > fu - 1 then (-1 : Int) else fu - 1) = max (fu - 1) (-1) by omega] at hS1
    refine Ev.b2 (h1 hf _ hS1) fun v H' hq => ?_
    exact Ev.ret hq
theorem callY_fn {k : Nat} {g : FuncId} {xs ys : List Value} {args : List Value} {H : AH} (hg : g < yOff) : callY (rn k) (.func (.func g) ⟨xs⟩ ⟨ys⟩) args H = rn k g (xs ++ (args ++ ys)) H := by
  unfold callY callV
  simp only [show Nat.blt g yOff = true by rw [Nat.blt_eq]; exact hg, cond_true]
theorem front3 {x y z d : Nat × Blk} (h : St H0 B0 B (x :: y :: z :: d :: L) H) : St H0 B0 B (d :: x :: y :: z :: L) H := h.perm (List.perm_middle (l₁ := [x, y, z])).symm
theorem back3 {x y z d : Nat × Blk} (h : St H0 B0 B (d :: x :: y :: z :: L) H) : St H0 B0 B (d :: L) H := (h.perm (List.perm_middle (l₁ := [x, y, z]))).drop1.drop1.drop1
theorem toFront {X La : List (Nat × Blk)} (h : St H0 B0 B (La ++ (X ++ L)) H) : St H0 B0 B (X ++ (La ++ L)) H := h.perm (permA La X L)
theorem caCells_snoc (l : List (Nat × List UInt8)) (q : Nat) (s : List UInt8) : caCells (l ++ [(q, s)]) = caCells l ++ [i64 q, str s] := by simp [caCells]
theorem drop_3 {x y z : Nat × Blk} (h : St H0 B0 B (x :: y :: z :: L) H) : St H0 B0 B L H := h.drop1.drop1.drop1
end
end Go.AM.C
set_option linter.unusedVariables false
set_option linter.unusedSimpArgs false
set_option maxRecDepth 100000
namespace Go.AM.C
open Go Go.AM Go.Proofs
attribute [local irreducible] run bin un ld st box newV mkS fldA fld ixA ix slc slc3 build buildS cv cvS ap cpy lenV gOp pickV b2 aIf aChk evalK resume iterD Option.bind

section
variable {B B0 H0 H : AH} {L : List (Nat × Blk)}
theorem Write_spec {p : Value} {D : Dsk} {Ls : List (Nat × Blk)} {i : Int} {s : List UInt8} (hD : DK p D Ls) (hO : D.OK) (hc : D.cache.length < 1000000000000) (hS : St H0 B0 B (Ls ++ L) H) :
    Ev (fun k _ => rn k 48 [p, .int .i64 i, str s] H) (DkP H0 B0 B L p (.int .i64 (D.write i s).1) (D.write i s).2) := by
  have hD0 := hD
  obtain ⟨n, bytes, cache, fu, dn⟩ := D
  obtain ⟨d, bb, cv, Lc, rfl, hG, rfl⟩ := hD
  have h1 := hO.n1
  have h2 := hO.n2
  have hfu := hO.fu
  dsimp only at hS hc h1 h2 hfu hG hD0
  simp only [List.cons_append] at hS
  have hcell := hG.cell
  refine Ev.fn (fun k => f48_eq k _ _ _ H) ?_
  have back : ∀ H', St H0 B0 B ((d, ⟨[sl bb 0 (64 * n) (64 * n), cv, .int .i64 fu, .bool dn], 58, .fix⟩) :: (bb, ⟨byts bytes, 5, .fix⟩) :: (Lc ++ L)) H' → ∃ Ls B', MoC B B' ∧ DK (ptr d 0) ⟨n, bytes, cache, fu, dn⟩ Ls ∧ St H0 B0 B' (Ls ++ L) H' := fun H' h => ⟨_, B, ⟨Mo.refl B⟩, hD0, h⟩
  repeat (first | refine Ev.s ?_ | refine Ev.newC fun _ _ _ => ?_ | refine Ev.boxC fun _ _ _ => ?_ | refine Ev.stC fun _ _ => ?_ | refine Ev.sc (by omega) ?_ | refine Ev.scg (by omega) ?_)
  rename_i b1 H1 hS1 b2 H2 hS2 b3 H3 hS3
  unfold Dsk.write
  dsimp only
  cases dn with
  | true =>
    repeat (first | refine Ev.s ?_ | refine Ev.newC fun _ _ _ => ?_ | refine Ev.boxC fun _ _ _ => ?_ | refine Ev.stC fun _ _ => ?_ | refine Ev.sc (by omega) ?_ | refine Ev.scg (by omega) ?_)
    exact Ev.ret ⟨rfl, back _ (drop_3 hS3)⟩
  | false =>
    repeat (first | refine Ev.s ?_ | refine Ev.newC fun _ _ _ => ?_ | refine Ev.boxC fun _ _ _ => ?_ | refine Ev.stC fun _ _ => ?_ | refine Ev.sc (by omega) ?_ | refine Ev.scg (by omega) ?_)
    rw [if_neg (fun h => by cases h)]
    by_cases hi : i < 0
    · rw [decide_eq_true hi, if_pos (.inl hi)]
      repeat (first | refine Ev.s ?_ | refine Ev.newC fun _ _ _ => ?_ | refine Ev.boxC fun _ _ _ => ?_ | refine Ev.stC fun _ _ => ?_ | refine Ev.sc (by omega) ?_ | refine Ev.scg (by omega) ?_)
      exact Ev.ret ⟨rfl, back _ (drop_3 hS3)⟩
    rw [decide_eq_false hi]
    obtain ⟨q, rfl⟩ : ∃ q : Nat, i = q := ⟨i.toNat, by omega⟩
    repeat (first | refine Ev.s ?_ | refine Ev.newC fun _ _ _ => ?_ | refine Ev.boxC fun _ _ _ => ?_ | refine Ev.stC fun _ _ => ?_ | refine Ev.sc (by omega) ?_ | refine Ev.scg (by omega) ?_)
    refine Ev.b2 (Sectors_spec hD0 hO hS3 ?_) ?_
    · intro x hx
      exact .tail _ (.tail _ (.tail _ (by rw [← List.cons_append, ← List.cons_append]; exact List.mem_append_left _ hx)))
    rintro _ _ ⟨rfl, rfl⟩
    repeat (first | refine Ev.s ?_ | refine Ev.newC fun _ _ _ => ?_ | refine Ev.boxC fun _ _ _ => ?_ | refine Ev.stC fun _ _ => ?_ | refine Ev.sc (by omega) ?_ | refine Ev.scg (by omega) ?_)
    by_cases hq : n ≤ q
    · rw [decide_eq_true hq, if_pos (.inr (.inl (by omega)))]
      repeat (first | refine Ev.s ?_ | refine Ev.newC fun _ _ _ => ?_ | refine Ev.boxC fun _ _ _ => ?_ | refine Ev.stC fun _ _ => ?_ | refine Ev.sc (by omega) ?_ | refine Ev.scg (by omega) ?_)
      exact Ev.ret ⟨rfl, back _ (drop_3 hS3)⟩
    rw [decide_eq_false hq]
    repeat (first | refine Ev.s ?_ | refine Ev.newC fun _ _ _ => ?_ | refine Ev.boxC fun _ _ _ => ?_ | refine Ev.stC fun _ _ => ?_ | refine Ev.sc (by omega) ?_ | refine Ev.scg (by omega) ?_)
    by_cases hl : s.length = 64
    · rw [decide_eq_false (fun h => h hl), if_neg (by omega)]
      repeat (first | refine Ev.s ?_ | refine Ev.newC fun _ _ _ => ?_ | refine Ev.boxC fun _ _ _ => ?_ | refine Ev.stC fun _ _ => ?_ | refine Ev.sc (by omega) ?_ | refine Ev.scg (by omega) ?_)
      rw [show (fun k n : Nat => AM.b2 (rn k 36 [ptr d 0, .func (.func 61) #[] #[ptr b1 0, ptr b2 0, ptr b3 0]] H3) fun v20 h20 => some (v20, h20)) = fun k n => rn k 36 [ptr d 0, .func (.func 61) #[] #[ptr b1 0, ptr b2 0, ptr b3 0]] H3 from funext fun k => funext fun _ => b2_id _]
      refine act_spec hfu (front3 hS3) (fun h0 H' hS' => ?_) (fun h0 H' hS' => ?_)
      · unfold Dsk.act
        dsimp only
        rw [if_pos h0]
        exact ⟨rfl, _, B, ⟨Mo.refl B⟩, ⟨d, bb, cv, Lc, rfl, hG, rfl⟩, back3 hS'⟩
      · unfold Dsk.act
        dsimp only
        rw [if_neg h0]
        simp only [callY_fn (show 61 < yOff by unfold yOff; omega)]
        clear hS hS1 hS2 hS3 back
        refine Ev.fn (fun k => f61_eq k _ _ _ H') ?_
        repeat (first | refine Ev.s ?_ | refine Ev.newC fun _ _ _ => ?_ | refine Ev.boxC fun _ _ _ => ?_ | refine Ev.stC fun _ _ => ?_ | refine Ev.sc (by omega) ?_ | refine Ev.scg (by omega) ?_)
        have hS4 := toFront (X := Lc) (La := [(d, _), (b3, _), (b2, _), (b1, _), (bb, _)]) (L := L) hS'
        refine GAcc.push (ds := [i64 q, str s]) (hG.acc hS4) rfl rfl rfl rfl (by omega) (by omega) fun v' B' H5 hm hA => ?_
        obtain ⟨Lx, hG5, hS5⟩ := hA.grs
        have hS6 := toFront (X := [(d, _), (b3, _), (b2, _), (b1, _), (bb, _)]) (La := Lx) (L := L) hS5
        simp only [List.cons_append, List.nil_append] at hS6
        have hcell5 := hG5.cell
        clear hS' hS4 hS5 hA
        repeat (first | refine Ev.s ?_ | refine Ev.newC fun _ _ _ => ?_ | refine Ev.boxC fun _ _ _ => ?_ | refine Ev.stC fun _ _ => ?_ | refine Ev.sc (by omega) ?_ | refine Ev.scg (by omega) ?_)
        rename_i H6 hS7
        refine Ev.ret ⟨rfl, _, B', hm, ⟨d, bb, v', Lx, rfl, ?_, rfl⟩, back3 hS7⟩
        unfold Dsk.put
        dsimp only
        rw [caCells_snoc, List.length_append]
        exact hG5
    · rw [decide_eq_true hl, if_pos (.inr (.inr hl))]
      repeat (first | refine Ev.s ?_ | refine Ev.newC fun _ _ _ => ?_ | refine Ev.boxC fun _ _ _ => ?_ | refine Ev.stC fun _ _ => ?_ | refine Ev.sc (by omega) ?_ | refine Ev.scg (by omega) ?_)
      exact Ev.ret ⟨rfl, back _ (drop_3 hS3)⟩
end
end Go.AM.C
set_option linter.unusedVariables false
set_option linter.unusedSimpArgs false
set_option maxRecDepth 100000
namespace Go.AM.C
open Go Go.AM Go.Proofs
attribute [local irreducible] run bin un ld st box newV mkS fldA fld ixA ix slc slc3 build buildS cv cvS ap cpy lenV gOp pickV b2 aIf aChk evalK resume iterD Option.bind

section
variable {B B0 H0 H : AH} {L : List (Nat × Blk)}
theorem New_spec {n : Nat} (h1 : 1 ≤ n) (h2 : n ≤ 1024) (hS : St H0 B0 B L H) :
    Ev (fun k _ => rn k 6 [i64 n] H) (fun r => ∃ p Ls B', r.1 = .tuple #[p, .int .i64 0] ∧ MoC B B' ∧ DK p (Dsk.new n) Ls ∧ St H0 B0 B' (Ls ++ L) r.2) := by
  refine Ev.fn (fun k => f6_eq k _ H) ?_
  repeat (first | refine Ev.s ?_ | refine Ev.newC fun _ _ _ => ?_ | refine Ev.boxC fun _ _ _ => ?_ | refine Ev.stC fun _ _ => ?_ | refine Ev.sc (by omega) ?_ | refine Ev.scg (by omega) ?_)
  rw [decide_eq_false (by omega)]
  repeat (first | refine Ev.s ?_ | refine Ev.newC fun _ _ _ => ?_ | refine Ev.boxC fun _ _ _ => ?_ | refine Ev.stC fun _ _ => ?_ | refine Ev.sc (by omega) ?_ | refine Ev.scg (by omega) ?_)
  rw [decide_eq_false (by omega)]
  repeat (first | refine Ev.s ?_ | refine Ev.newC fun _ _ _ => ?_ | refine Ev.boxC fun _ _ _ => ?_ | refine Ev.stC fun _ _ => ?_ | refine Ev.sc (by omega) ?_ | refine Ev.scg (by omega) ?_)
  refine Ev.mkS (t := 55) inferInstance hS (by omega) (by omega) fun bb B' H' hm hS' => ?_
  clear hS
  repeat (first | refine Ev.s ?_ | refine Ev.newC fun _ _ _ => ?_ | refine Ev.boxC fun _ _ _ => ?_ | refine Ev.stC fun _ _ => ?_ | refine Ev.sc (by omega) ?_ | refine Ev.scg (by omega) ?_)
  rename_i d H1 hS1
  refine Ev.ret ⟨_, _, B', rfl, ⟨hm⟩, ⟨d, bb, _, [], rfl, .inl ⟨rfl, rfl, .inl rfl, rfl⟩, rfl⟩, ?_⟩
  unfold Dsk.new
  dsimp only
  rw [byts_rep, Nat.mul_comm 64 n]
  exact hS1
/-- The barrier's rounds. -/
theorem barrier_loop {b1 d bb : Nat} {cv : Value} {Lc : List (Nat × Blk)} {D : Dsk} (hO : D.OK) (hG : GRS 84 2 cv D.cache.length (caCells D.cache) Lc) (hc : D.cache.length < 1000000000000) :
    ∀ (m i : Nat) (B H : AH), i + m = D.cache.length → St H0 B0 B ((b1, ⟨[ptr d 0], 27, .fix⟩) :: (d, ⟨[sl bb 0 (64 * D.n) (64 * D.n), cv, .int .i64 D.fuse, .bool D.down], 58, .fix⟩) :: (bb, ⟨byts (layAll (D.cache.take i) D.bytes), 5, .fix⟩) :: (Lc ++ L)) H →
    Ev (fun k K => f37_L0 k (ptr b1 0) cv (i64 D.cache.length) (i64 i) K H) (fun o => ∃ B' H', o = (.exit 0, f37_X_L0 (ptr b1 0), H') ∧ MoC B B' ∧
      St H0 B0 B' ((b1, ⟨[ptr d 0], 27, .fix⟩) :: (d, ⟨[sl bb 0 (64 * D.n) (64 * D.n), cv, .int .i64 D.fuse, .bool D.down], 58, .fix⟩) :: (bb, ⟨byts (layAll D.cache D.bytes), 5, .fix⟩) :: (Lc ++ L)) H') := by
  intro m
  induction m with
  | zero =>
    intro i B H hi hS
    refine Ev.succ (fun k K => f37_L0_succ k _ _ _ _ K H) ?_
    repeat (first | refine Ev.s ?_ | refine Ev.newC fun _ _ _ => ?_ | refine Ev.boxC fun _ _ _ => ?_ | refine Ev.stC fun _ _ => ?_ | refine Ev.sc (by omega) ?_ | refine Ev.scg (by omega) ?_)
    rw [decide_eq_false (by omega)]
    repeat (first | refine Ev.s ?_ | refine Ev.newC fun _ _ _ => ?_ | refine Ev.boxC fun _ _ _ => ?_ | refine Ev.stC fun _ _ => ?_ | refine Ev.sc (by omega) ?_ | refine Ev.scg (by omega) ?_)
    rw [List.take_of_length_le (by omega)] at hS
    exact Ev.ret ⟨B, H, rfl, ⟨Mo.refl B⟩, hS⟩
  | succ m ih =>
    intro i B H hi hS
    refine Ev.succ (fun k K => f37_L0_succ k _ _ _ _ K H) ?_
    repeat (first | refine Ev.s ?_ | refine Ev.newC fun _ _ _ => ?_ | refine Ev.boxC fun _ _ _ => ?_ | refine Ev.stC fun _ _ => ?_ | refine Ev.sc (by omega) ?_ | refine Ev.scg (by omega) ?_)
    rw [decide_eq_true (by omega)]
    repeat (first | refine Ev.s ?_ | refine Ev.newC fun _ _ _ => ?_ | refine Ev.boxC fun _ _ _ => ?_ | refine Ev.stC fun _ _ => ?_ | refine Ev.sc (by omega) ?_ | refine Ev.scg (by omega) ?_)
    obtain ⟨⟨a, s⟩, ha⟩ : ∃ x, D.cache[i]? = some x := ⟨_, List.getElem?_eq_getElem (by omega)⟩
    have hmem := hO.ca (a, s) (List.mem_of_getElem? ha)
    dsimp only at hmem
    have hN := hG.now hS (fun p hp => .tail _ (.tail _ (.tail _ (List.mem_append_left _ hp))))
    obtain ⟨p, q1, q2⟩ := hN.ldAt (P := Tryd.prog) (t := 56) (k := .i64) (i := i) (by omega) (AggOf.eq (P := Tryd.prog) (t := 84))
    rw [caCells_at ha] at q2
    refine Ev.prim q1 ?_
    refine Ev.prim q2 ?_
    repeat (first | refine Ev.s ?_ | refine Ev.newC fun _ _ _ => ?_ | refine Ev.boxC fun _ _ _ => ?_ | refine Ev.stC fun _ _ => ?_ | refine Ev.sc (by omega) ?_ | refine Ev.scg (by omega) ?_)
    rename_i b2 H2 hS2 H3 hS3
    have hS4 := hS3.perm (show ([(d, _), (bb, _), (b2, _), (b1, _)] ++ (Lc ++ L)).Perm _ from (List.Perm.append_right _ (perm22 _ _ _ _)))
    refine Ev.b2 (lay_spec (n := D.n) hO.n2 (layAll_len _ _ _ hO.len fun p hp => hO.ca p (List.mem_of_mem_take hp)) hmem.1 (by omega) hS4) ?_
    rintro _ H5 ⟨_, hS5⟩
    dsimp only at hS5
    rw [← lay_at ha] at hS5
    repeat (first | refine Ev.s ?_ | refine Ev.newC fun _ _ _ => ?_ | refine Ev.boxC fun _ _ _ => ?_ | refine Ev.stC fun _ _ => ?_ | refine Ev.sc (by omega) ?_ | refine Ev.scg (by omega) ?_)
    have hS6 := (hS5.perm (show ([(b2, _), (b1, _), (d, _), (bb, _)] ++ (Lc ++ L)).Perm _ from (List.Perm.append_right _ (perm22 _ _ _ _)))).drop1
    exact ih (i + 1) B H5 (by omega) hS6
theorem Barrier1_spec {b1 d bb : Nat} {cv : Value} {Lc : List (Nat × Blk)} {D : Dsk} (hO : D.OK) (hG : GRS 84 2 cv D.cache.length (caCells D.cache) Lc) (hc : D.cache.length < 1000000000000)
    (hS : St H0 B0 B ((b1, ⟨[ptr d 0], 27, .fix⟩) :: (d, ⟨[sl bb 0 (64 * D.n) (64 * D.n), cv, .int .i64 D.fuse, .bool D.down], 58, .fix⟩) :: (bb, ⟨byts D.bytes, 5, .fix⟩) :: (Lc ++ L)) H) :
    Ev (fun k _ => rn k 37 [ptr b1 0] H) (DkP H0 B0 B L (ptr d 0) (.tuple #[]) D.flush) := by
  refine Ev.fn (fun k => f37_eq k _ H) ?_
  have hcell := hG.cell
  repeat (first | refine Ev.s ?_ | refine Ev.newC fun _ _ _ => ?_ | refine Ev.boxC fun _ _ _ => ?_ | refine Ev.stC fun _ _ => ?_ | refine Ev.sc (by omega) ?_ | refine Ev.scg (by omega) ?_)
  refine Ev.prim (hG.len (Und.eq (P := Tryd.prog) (t := 56))) ?_
  refine Ev.bind (Ev.loop (barrier_loop hO hG hc D.cache.length 0 B H (by omega) hS)) ?_
  rintro _ ⟨B', H', rfl, hm, hS'⟩
  refine Ev.eq (fun k _ => f37_A0_x0 k _ _) ?_
  clear hS
  repeat (first | refine Ev.s ?_ | refine Ev.newC fun _ _ _ => ?_ | refine Ev.boxC fun _ _ _ => ?_ | refine Ev.stC fun _ _ => ?_ | refine Ev.sc (by omega) ?_ | refine Ev.scg (by omega) ?_)
  rename_i H1 hS1
  have hS2 := (toFront (X := Lc) (La := [(b1, _), (d, _), (bb, _)]) (L := L) hS1)
  refine Ev.ret ⟨rfl, _, B', hm, ⟨d, bb, _, [], rfl, .inl ⟨rfl, rfl, .inl rfl, rfl⟩, rfl⟩, ?_⟩
  have hS3 : St H0 B0 B' ([(b1, _), (d, _), (bb, _)] ++ L) H1 := hS2.drop (List.sublist_append_right _ _)
  exact hS3.drop1
theorem Barrier_spec {p : Value} {D : Dsk} {Ls : List (Nat × Blk)} (hD : DK p D Ls) (hO : D.OK) (hc : D.cache.length < 1000000000000) (hS : St H0 B0 B (Ls ++ L) H) :
    Ev (fun k _ => rn k 20 [p] H) (DkP H0 B0 B L p (.int .i64 D.barrier.1) D.barrier.2) := by
  have hD0 := hD
  obtain ⟨n, bytes, cache, fu, dn⟩ := D
  obtain ⟨d, bb, cv, Lc, rfl, hG, rfl⟩ := hD
  have hfu := hO.fu
  dsimp only at hS hc hfu hG hD0
  simp only [List.cons_append] at hS
  have hcell := hG.cell
  refine Ev.fn (fun k => f20_eq k _ H) ?_
  repeat (first | refine Ev.s ?_ | refine Ev.newC fun _ _ _ => ?_ | refine Ev.boxC fun _ _ _ => ?_ | refine Ev.stC fun _ _ => ?_ | refine Ev.sc (by omega) ?_ | refine Ev.scg (by omega) ?_)
  rename_i b1 H1 hS1
  unfold Dsk.barrier
  dsimp only
  cases dn with
  | true =>
    repeat (first | refine Ev.s ?_ | refine Ev.newC fun _ _ _ => ?_ | refine Ev.boxC fun _ _ _ => ?_ | refine Ev.stC fun _ _ => ?_ | refine Ev.sc (by omega) ?_ | refine Ev.scg (by omega) ?_)
    exact Ev.ret ⟨rfl, _, B, ⟨Mo.refl B⟩, hD0, hS1.drop1⟩
  | false =>
    repeat (first | refine Ev.s ?_ | refine Ev.newC fun _ _ _ => ?_ | refine Ev.boxC fun _ _ _ => ?_ | refine Ev.stC fun _ _ => ?_ | refine Ev.sc (by omega) ?_ | refine Ev.scg (by omega) ?_)
    rw [if_neg (fun h => by cases h)]
    rw [show (fun k n : Nat => AM.b2 (rn k 36 [ptr d 0, .func (.func 37) #[] #[ptr b1 0]] H1) fun v20 h20 => some (v20, h20)) = fun k n => rn k 36 [ptr d 0, .func (.func 37) #[] #[ptr b1 0]] H1 from funext fun k => funext fun _ => b2_id _]
    refine act_spec hfu (hS1.perm (List.Perm.swap _ _ _)) (fun h0 H' hS' => ?_) (fun h0 H' hS' => ?_)
    · unfold Dsk.act
      dsimp only
      rw [if_pos h0]
      exact ⟨rfl, _, B, ⟨Mo.refl B⟩, ⟨d, bb, cv, Lc, rfl, hG, rfl⟩, (hS'.perm (List.Perm.swap _ _ _)).drop1⟩
    · unfold Dsk.act
      dsimp only
      rw [if_neg h0]
      simp only [callY_fn (show 37 < yOff by unfold yOff; omega)]
      refine (Barrier1_spec (D := ⟨n, bytes, cache, max (fu - 1) (-1), false⟩) hO.actD hG hc (hS'.perm (List.Perm.swap _ _ _))).mono ?_
      rintro ⟨v, H2⟩ ⟨_, hq⟩
      exact ⟨rfl, hq⟩
end
end Go.AM.C
set_option linter.unusedVariables false
set_option linter.unusedSimpArgs false
set_option maxRecDepth 100000
namespace Go.AM.C
open Go Go.AM Go.Proofs
attribute [local irreducible] run bin un ld st box newV mkS fldA fld ixA ix slc slc3 build buildS cv cvS ap cpy lenV gOp pickV b2 aIf aChk evalK resume iterD Option.bind

section
variable {B B0 H0 H : AH} {L : List (Nat × Blk)}
theorem callV_fn {k : Nat} {g : FuncId} {xs ys : List Value} {args : List Value} {H : AH} (hg : g < yOff) : callV (rn k) (.func (.func g) ⟨xs⟩ ⟨ys⟩) args H = rn k g (xs ++ (args ++ ys)) H := by
  unfold callV
  simp only [show Nat.blt g yOff = true by rw [Nat.blt_eq]; exact hg, cond_true]
abbrev RdT9 (b1 b2 b3 : Nat) : List Value := f71_T_R0 (ptr b1 0) (ptr b2 0) (ptr b3 0)
theorem read_loop {b bx b1 b2 b3 i : Nat} {cv : Value} {cache : List (Nat × List UInt8)} {Lc : List (Nat × Blk)} (hG : GRS 84 2 cv cache.length (caCells cache) Lc) (hc : cache.length < 1000000000000) :
    ∀ (m : Nat) (B H : AH), m ≤ cache.length → St H0 B0 B ((b, ⟨.int .i64 (0 : Nat) :: RdT9 b1 b2 b3, 7, .loop 71 7⟩) :: (bx, ⟨[cv], 56, .fix⟩) :: (b3, ⟨[.int .i64 0], 28, .fix⟩) :: (b2, ⟨[.string ByteArray.empty], 9, .fix⟩) :: (b1, ⟨[i64 i], 3, .fix⟩) :: (Lc ++ L)) H →
    Ev (fun k K => f80_L0 k (.func (.yield b) #[] #[]) (ptr bx 0) (.int .i64 ((m : Int) - 1)) K H) (fun o => ∃ B' H', MoC B B' ∧
      ((find (cache.take m) i = none ∧ o = (.exit 0, f80_X_L0, H') ∧ St H0 B0 B' ((b, ⟨.int .i64 (xSt .normal : Nat) :: RdT9 b1 b2 b3, 7, .loop 71 7⟩) :: (bx, ⟨[cv], 56, .fix⟩) :: (b3, ⟨[.int .i64 0], 28, .fix⟩) :: (b2, ⟨[.string ByteArray.empty], 9, .fix⟩) :: (b1, ⟨[i64 i], 3, .fix⟩) :: (Lc ++ L)) H') ∨
       ∃ s, find (cache.take m) i = some s ∧ o = (.ret, f80_X_L0, H') ∧ St H0 B0 B' ((b, ⟨.int .i64 (xSt .ret : Nat) :: RdT9 b1 b2 b3, 7, .loop 71 7⟩) :: (bx, ⟨[cv], 56, .fix⟩) :: (b3, ⟨[.int .i64 0], 28, .fix⟩) :: (b2, ⟨[str s], 9, .fix⟩) :: (b1, ⟨[i64 i], 3, .fix⟩) :: (Lc ++ L)) H')) := by
  intro m
  induction m with
  | zero =>
    intro B H hm hS
    refine Ev.succ (fun k K => f80_L0_succ k _ _ _ K H) ?_
    repeat (first | refine Ev.s ?_ | refine Ev.newC fun _ _ _ => ?_ | refine Ev.boxC fun _ _ _ => ?_ | refine Ev.stC fun _ _ => ?_ | refine Ev.sc (by omega) ?_ | refine Ev.scg (by omega) ?_)
    rw [decide_eq_false (by omega)]
    repeat (first | refine Ev.s ?_ | refine Ev.newC fun _ _ _ => ?_ | refine Ev.boxC fun _ _ _ => ?_ | refine Ev.stC fun _ _ => ?_ | refine Ev.sc (by omega) ?_ | refine Ev.scg (by omega) ?_)
    exact Ev.ret ⟨B, H, ⟨Mo.refl B⟩, .inl ⟨rfl, rfl, hS⟩⟩
  | succ m ih =>
    intro B H hm hS
    refine Ev.succ (fun k K => f80_L0_succ k _ _ _ K H) ?_
    rw [show ((m + 1 : Nat) : Int) - 1 = (m : Int) by omega]
    have hcell := hG.cell
    repeat (first | refine Ev.s ?_ | refine Ev.newC fun _ _ _ => ?_ | refine Ev.boxC fun _ _ _ => ?_ | refine Ev.stC fun _ _ => ?_ | refine Ev.sc (by omega) ?_ | refine Ev.scg (by omega) ?_)
    rw [decide_eq_true (by omega)]
    repeat (first | refine Ev.s ?_ | refine Ev.newC fun _ _ _ => ?_ | refine Ev.boxC fun _ _ _ => ?_ | refine Ev.stC fun _ _ => ?_ | refine Ev.sc (by omega) ?_ | refine Ev.scg (by omega) ?_)
    obtain ⟨⟨a, s⟩, ha, htk⟩ := take_ex (l := cache) (m := m) (by omega)
    have hN := hG.now hS (fun p hp => .tail _ (.tail _ (.tail _ (.tail _ (.tail _ (List.mem_append_left _ hp))))))
    obtain ⟨p, q1, q2⟩ := ScN.ldAt (P := Tryd.prog) (t := 56) (k := .i64) (i := m) hN (by omega) (AggOf.eq (P := Tryd.prog) (t := 84))
    rw [caCells_at ha] at q2
    refine Ev.prim q1 ?_
    refine Ev.prim q2 ?_
    rw [htk, find_snoc]
    refine Ev.b2 (Q1 := fun r => ∃ B', MoC B B' ∧ ((a ≠ i ∧ r.1 = .bool true ∧ St H0 B0 B' ((b, ⟨.int .i64 (0 : Nat) :: RdT9 b1 b2 b3, 7, .loop 71 7⟩) :: (bx, ⟨[cv], 56, .fix⟩) :: (b3, ⟨[.int .i64 0], 28, .fix⟩) :: (b2, ⟨[.string ByteArray.empty], 9, .fix⟩) :: (b1, ⟨[i64 i], 3, .fix⟩) :: (Lc ++ L)) r.2) ∨
        (a = i ∧ r.1 = .bool false ∧ St H0 B0 B' ((b, ⟨.int .i64 (xSt .ret : Nat) :: RdT9 b1 b2 b3, 7, .loop 71 7⟩) :: (bx, ⟨[cv], 56, .fix⟩) :: (b3, ⟨[.int .i64 0], 28, .fix⟩) :: (b2, ⟨[str s], 9, .fix⟩) :: (b1, ⟨[i64 i], 3, .fix⟩) :: (Lc ++ L)) r.2)))
      (Ev.fn (fun k => f71_Y0_eq k _ _ _ _ _ b H (hS.get (.head _))) ?_) ?_
    · repeat (first | refine Ev.s ?_ | refine Ev.newC fun _ _ _ => ?_ | refine Ev.boxC fun _ _ _ => ?_ | refine Ev.stC fun _ _ => ?_ | refine Ev.sc (by omega) ?_ | refine Ev.scg (by omega) ?_)
      rename_i bv H1 hS1 H2 hS2
      refine Ev.setSt (c := 0) (d := 1) hS2 (.tail _ (.head _)) (.tail _ (.head _)) fun H3 hS3 => ?_
      clear hS hS1 hS2 hN q1 q2
      repeat (first | refine Ev.s ?_ | refine Ev.newC fun _ _ _ => ?_ | refine Ev.boxC fun _ _ _ => ?_ | refine Ev.stC fun _ _ => ?_ | refine Ev.sc (by omega) ?_ | refine Ev.scg (by omega) ?_)
      by_cases hai : a = i
      · rw [decide_eq_true hai]
        repeat (first | refine Ev.s ?_ | refine Ev.newC fun _ _ _ => ?_ | refine Ev.boxC fun _ _ _ => ?_ | refine Ev.stC fun _ _ => ?_ | refine Ev.sc (by omega) ?_ | refine Ev.scg (by omega) ?_)
        rename_i H4 hS4 H5 hS5
        refine Ev.setSt (c := 1) (d := 2) hS5 (.tail _ (.head _)) (.tail _ (.head _)) fun H6 hS6 => ?_
        exact Ev.ret ⟨B, ⟨Mo.refl B⟩, .inr ⟨hai, rfl, hS6.drop1⟩⟩
      · rw [decide_eq_false hai]
        repeat (first | refine Ev.s ?_ | refine Ev.newC fun _ _ _ => ?_ | refine Ev.boxC fun _ _ _ => ?_ | refine Ev.stC fun _ _ => ?_ | refine Ev.sc (by omega) ?_ | refine Ev.scg (by omega) ?_)
        refine Ev.setSt (c := 1) (d := 0) hS3 (.tail _ (.head _)) (.tail _ (.head _)) fun H6 hS6 => ?_
        exact Ev.ret ⟨B, ⟨Mo.refl B⟩, .inl ⟨hai, rfl, hS6.drop1⟩⟩
    · rintro v H' ⟨B', hm1, ⟨hai, rfl, hS'⟩ | ⟨hai, rfl, hS'⟩⟩
      · rw [if_neg hai]
        clear hS
        repeat (first | refine Ev.s ?_ | refine Ev.newC fun _ _ _ => ?_ | refine Ev.boxC fun _ _ _ => ?_ | refine Ev.stC fun _ _ => ?_ | refine Ev.sc (by omega) ?_ | refine Ev.scg (by omega) ?_)
        refine Ev.prim (bin_sub64 (by omega)) ?_
        refine (ih B' H' (by omega) hS').mono ?_
        rintro o ⟨B2, H2, hm2, h⟩
        exact ⟨B2, H2, ⟨hm1.mo.trans hm2.mo⟩, h⟩
      · rw [if_pos hai]
        clear hS
        repeat (first | refine Ev.s ?_ | refine Ev.newC fun _ _ _ => ?_ | refine Ev.boxC fun _ _ _ => ?_ | refine Ev.stC fun _ _ => ?_ | refine Ev.sc (by omega) ?_ | refine Ev.scg (by omega) ?_)
        exact Ev.ret ⟨B', H', hm1, .inr ⟨s, rfl, rfl, hS'⟩⟩
theorem Read_spec {p : Value} {D : Dsk} {Ls : List (Nat × Blk)} {i : Int} (hD : DK p D Ls) (hO : D.OK) (hc : D.cache.length < 1000000000000) (hS : St H0 B0 B (Ls ++ L) H) :
    Ev (fun k _ => rn k 71 [p, .int .i64 i] H) (fun r => r.1 = .tuple #[str (D.read i).1, .int .i64 (D.read i).2] ∧ ∃ B', MoC B B' ∧ St H0 B0 B' (Ls ++ L) r.2) := by
  have hD0 := hD
  obtain ⟨n, bytes, cache, fu, dn⟩ := D
  obtain ⟨d, bb, cv, Lc, rfl, hG, rfl⟩ := hD
  have h1 := hO.n1
  have h2 := hO.n2
  have hlen := hO.len
  dsimp only at hS hc hG hD0 h1 h2 hlen
  simp only [List.cons_append] at hS ⊢
  have hcell := hG.cell
  refine Ev.fn (fun k => f71_eq k _ _ H) ?_
  repeat (first | refine Ev.s ?_ | refine Ev.newC fun _ _ _ => ?_ | refine Ev.boxC fun _ _ _ => ?_ | refine Ev.stC fun _ _ => ?_ | refine Ev.sc (by omega) ?_ | refine Ev.scg (by omega) ?_)
  rename_i b1 H1 hS1 b2 H2 hS2 b3 H3 hS3
  unfold Dsk.read
  dsimp only
  cases dn with
  | true =>
    clear hS hS1 hS2
    repeat (first | refine Ev.s ?_ | refine Ev.newC fun _ _ _ => ?_ | refine Ev.boxC fun _ _ _ => ?_ | refine Ev.stC fun _ _ => ?_ | refine Ev.sc (by omega) ?_ | refine Ev.scg (by omega) ?_)
    rename_i H4 hS4 H5 hS5
    exact Ev.ret ⟨rfl, B, ⟨Mo.refl B⟩, drop_3 hS5⟩
  | false =>
    clear hS hS1 hS2
    repeat (first | refine Ev.s ?_ | refine Ev.newC fun _ _ _ => ?_ | refine Ev.boxC fun _ _ _ => ?_ | refine Ev.stC fun _ _ => ?_ | refine Ev.sc (by omega) ?_ | refine Ev.scg (by omega) ?_)
    rw [if_neg (fun h => by cases h)]
    by_cases hi : i < 0
    · rw [decide_eq_true hi, if_pos (.inl hi)]
      repeat (first | refine Ev.s ?_ | refine Ev.newC fun _ _ _ => ?_ | refine Ev.boxC fun _ _ _ => ?_ | refine Ev.stC fun _ _ => ?_ | refine Ev.sc (by omega) ?_ | refine Ev.scg (by omega) ?_)
      rename_i H4 hS4 H5 hS5
      exact Ev.ret ⟨rfl, B, ⟨Mo.refl B⟩, drop_3 hS5⟩
    rw [decide_eq_false hi]
    obtain ⟨q, rfl⟩ : ∃ q : Nat, i = q := ⟨i.toNat, by omega⟩
    repeat (first | refine Ev.s ?_ | refine Ev.newC fun _ _ _ => ?_ | refine Ev.boxC fun _ _ _ => ?_ | refine Ev.stC fun _ _ => ?_ | refine Ev.sc (by omega) ?_ | refine Ev.scg (by omega) ?_)
    refine Ev.b2 (Sectors_spec hD0 hO hS3 ?_) ?_
    · intro x hx
      exact .tail _ (.tail _ (.tail _ (by rw [← List.cons_append, ← List.cons_append]; exact List.mem_append_left _ hx)))
    rintro _ _ ⟨rfl, rfl⟩
    repeat (first | refine Ev.s ?_ | refine Ev.newC fun _ _ _ => ?_ | refine Ev.boxC fun _ _ _ => ?_ | refine Ev.stC fun _ _ => ?_ | refine Ev.sc (by omega) ?_ | refine Ev.scg (by omega) ?_)
    by_cases hq : n ≤ q
    · rw [decide_eq_true hq, if_pos (.inr (by omega))]
      repeat (first | refine Ev.s ?_ | refine Ev.newC fun _ _ _ => ?_ | refine Ev.boxC fun _ _ _ => ?_ | refine Ev.stC fun _ _ => ?_ | refine Ev.sc (by omega) ?_ | refine Ev.scg (by omega) ?_)
      rename_i H4 hS4 H5 hS5
      exact Ev.ret ⟨rfl, B, ⟨Mo.refl B⟩, drop_3 hS5⟩
    rw [decide_eq_false hq, if_neg (by omega)]
    repeat (first | refine Ev.s ?_ | refine Ev.newC fun _ _ _ => ?_ | refine Ev.boxC fun _ _ _ => ?_ | refine Ev.stC fun _ _ => ?_ | refine Ev.sc (by omega) ?_ | refine Ev.scg (by omega) ?_)
    refine Ev.b2 (Q1 := fun r => ∃ bx, r.1 = .func (.func 80) #[] #[ptr bx 0] ∧ St H0 B0 B ((bx, ⟨[cv], 56, .fix⟩) :: (b3, ⟨[.int .i64 0], 28, .fix⟩) :: (b2, ⟨[.string ByteArray.empty], 9, .fix⟩) :: (b1, ⟨[i64 q], 3, .fix⟩) :: (d, ⟨[sl bb 0 (64 * n) (64 * n), cv, .int .i64 fu, .bool false], 58, .fix⟩) :: (bb, ⟨byts bytes, 5, .fix⟩) :: (Lc ++ L)) r.2)
      (Ev.fn (fun k => f77_eq k _ H3) ?_) ?_
    · repeat (first | refine Ev.s ?_ | refine Ev.newC fun _ _ _ => ?_ | refine Ev.boxC fun _ _ _ => ?_ | refine Ev.stC fun _ _ => ?_ | refine Ev.sc (by omega) ?_ | refine Ev.scg (by omega) ?_)
      rename_i bx H4 hS4
      exact Ev.ret ⟨bx, rfl, hS4⟩
    rintro _ H4 ⟨bx, rfl, hS4⟩
    simp only [callV_fn (show 80 < yOff by unfold yOff; omega), List.nil_append, List.cons_append]
    have hS5 := hS4.mkB' (.int .i64 0 :: RdT9 b1 b2 b3) 7 (.loop 71 7)
    clear hS3
    have hS6 := toFront (X := Lc) (La := [(H4.length, ⟨.int .i64 0 :: RdT9 b1 b2 b3, 7, .loop 71 7⟩), (bx, ⟨[cv], 56, .fix⟩), (b3, ⟨[.int .i64 0], 28, .fix⟩), (b2, ⟨[.string ByteArray.empty], 9, .fix⟩), (b1, ⟨[i64 q], 3, .fix⟩), (d, ⟨[sl bb 0 (64 * n) (64 * n), cv, .int .i64 fu, .bool false], 58, .fix⟩), (bb, ⟨byts bytes, 5, .fix⟩)]) (L := L) hS5
    have hS7 := toFront (X := [(H4.length, ⟨.int .i64 0 :: RdT9 b1 b2 b3, 7, .loop 71 7⟩), (bx, ⟨[cv], 56, .fix⟩), (b3, ⟨[.int .i64 0], 28, .fix⟩), (b2, ⟨[.string ByteArray.empty], 9, .fix⟩), (b1, ⟨[i64 q], 3, .fix⟩)]) (La := Lc) (L := [(d, ⟨[sl bb 0 (64 * n) (64 * n), cv, .int .i64 fu, .bool false], 58, .fix⟩), (bb, ⟨byts bytes, 5, .fix⟩)] ++ L) hS6
    simp only [List.cons_append, List.nil_append] at hS7
    clear hS4 hS5 hS6
    have key : Ev (fun k _ => rn k 80 [.func (.yield H4.length) #[] #[], ptr bx 0] (mkB H4 (.int .i64 0 :: RdT9 b1 b2 b3) 7 (.loop 71 7))) (fun r => ∃ B', MoC B B' ∧
        ((find cache q = none ∧ St H0 B0 B' ((H4.length, ⟨.int .i64 (xSt .normal : Nat) :: RdT9 b1 b2 b3, 7, .loop 71 7⟩) :: (bx, ⟨[cv], 56, .fix⟩) :: (b3, ⟨[.int .i64 0], 28, .fix⟩) :: (b2, ⟨[.string ByteArray.empty], 9, .fix⟩) :: (b1, ⟨[i64 q], 3, .fix⟩) :: (Lc ++ ([(d, ⟨[sl bb 0 (64 * n) (64 * n), cv, .int .i64 fu, .bool false], 58, .fix⟩), (bb, ⟨byts bytes, 5, .fix⟩)] ++ L))) r.2) ∨
         ∃ s, find cache q = some s ∧ St H0 B0 B' ((H4.length, ⟨.int .i64 (xSt .ret : Nat) :: RdT9 b1 b2 b3, 7, .loop 71 7⟩) :: (bx, ⟨[cv], 56, .fix⟩) :: (b3, ⟨[.int .i64 0], 28, .fix⟩) :: (b2, ⟨[str s], 9, .fix⟩) :: (b1, ⟨[i64 q], 3, .fix⟩) :: (Lc ++ ([(d, ⟨[sl bb 0 (64 * n) (64 * n), cv, .int .i64 fu, .bool false], 58, .fix⟩), (bb, ⟨byts bytes, 5, .fix⟩)] ++ L))) r.2)) := by
      refine Ev.fn (fun k => f80_eq k _ _ _) ?_
      repeat (first | refine Ev.s ?_ | refine Ev.newC fun _ _ _ => ?_ | refine Ev.boxC fun _ _ _ => ?_ | refine Ev.stC fun _ _ => ?_ | refine Ev.sc (by omega) ?_ | refine Ev.scg (by omega) ?_)
      refine Ev.prim (hG.len (Und.eq (P := Tryd.prog) (t := 56))) ?_
      refine Ev.prim (bin_sub64 (by omega)) ?_
      refine Ev.bind (Ev.loop (read_loop hG hc cache.length B _ (Nat.le_refl _) hS7)) ?_
      rw [List.take_length]
      rintro _ ⟨B', H', hm, ⟨hf, rfl, hS'⟩ | ⟨s, hf, rfl, hS'⟩⟩
      · refine Ev.eq (fun k _ => f80_A0_x0 k _) ?_
        exact Ev.ret ⟨B', hm, .inl ⟨hf, hS'⟩⟩
      · refine Ev.eq (fun k _ => f80_A0_ret k _) ?_
        exact Ev.ret ⟨B', hm, .inr ⟨s, hf, hS'⟩⟩
    refine Ev.b2 key ?_
    clear hS7
    rintro _ H5 ⟨B', hm, ⟨hf, hS'⟩ | ⟨s, hf, hS'⟩⟩
    · refine Ev.rgBack hS' fun H6 hS6 => ?_
      refine Ev.eq (fun k _ => f71_B0_normal k _ _ _ _ H6) ?_
      clear hS'
      have hS7 := hS6.perm (show ([(bx, _), (b3, _), (b2, _), (b1, _)] ++ ([(d, _), (bb, _)] ++ (Lc ++ L))).Perm _ from List.Perm.append_left _ (permA [(d, _), (bb, _)] Lc L).symm)
      simp only [List.cons_append, List.nil_append] at hS7
      clear hS6
      repeat (first | refine Ev.s ?_ | refine Ev.newC fun _ _ _ => ?_ | refine Ev.boxC fun _ _ _ => ?_ | refine Ev.stC fun _ _ => ?_ | refine Ev.sc (by omega) ?_ | refine Ev.scg (by omega) ?_)
      refine Ev.prim (slc_own2 (t := 55) (by omega)) ?_
      rw [if_neg (by omega)]
      refine Ev.prim (cvS_part (d := 9) (bs := bytes) hS7 (.tail _ (.tail _ (.tail _ (.tail _ (.tail _ (.head _)))))) (by omega) (by omega)) ?_
      repeat (first | refine Ev.s ?_ | refine Ev.newC fun _ _ _ => ?_ | refine Ev.boxC fun _ _ _ => ?_ | refine Ev.stC fun _ _ => ?_ | refine Ev.sc (by omega) ?_ | refine Ev.scg (by omega) ?_)
      rename_i H8 hS8 H9 hS9
      refine Ev.ret ⟨?_, B', hm, hS9.drop1.drop1.drop1.drop1⟩
      unfold Dsk.look Dsk.sector
      dsimp only
      rw [Int.toNat_natCast, hf]
      simp only [Option.getD_none, Nat.mul_comm 64 q, show (q + 1) * 64 - q * 64 = 64 by omega]
      rfl
    · refine Ev.rgBack hS' fun H6 hS6 => ?_
      refine Ev.eq (fun k _ => f71_B0_ret k _ _ _ _ H6) ?_
      clear hS'
      have hS7 := hS6.perm (show ([(bx, _), (b3, _), (b2, _), (b1, _)] ++ ([(d, _), (bb, _)] ++ (Lc ++ L))).Perm _ from List.Perm.append_left _ (permA [(d, _), (bb, _)] Lc L).symm)
      simp only [List.cons_append, List.nil_append] at hS7
      clear hS6
      repeat (first | refine Ev.s ?_ | refine Ev.newC fun _ _ _ => ?_ | refine Ev.boxC fun _ _ _ => ?_ | refine Ev.stC fun _ _ => ?_ | refine Ev.sc (by omega) ?_ | refine Ev.scg (by omega) ?_)
      refine Ev.ret ⟨?_, B', hm, hS7.drop1.drop1.drop1.drop1⟩
      unfold Dsk.look
      dsimp only
      rw [Int.toNat_natCast, hf]
      rfl
end
end Go.AM.C
set_option linter.unusedVariables false
set_option linter.unusedSimpArgs false
set_option maxRecDepth 100000
namespace Go.AM.C
open Go Go.AM Go.Proofs
attribute [local irreducible] run bin un ld st box newV mkS fldA fld ixA ix slc slc3 build buildS cv cvS ap cpy lenV gOp pickV b2 aIf aChk evalK resume iterD Option.bind

section
variable {B B0 H0 H : AH} {L : List (Nat × Blk)}
theorem pWrite_spec {p : Value} {D : Dsk} {Ls : List (Nat × Blk)} {n kind : Int} {t : List UInt8} (hD : DK p D Ls) (hO : D.OK) (hc : D.cache.length + 1 < 1000000000000) (ht : t.length < 9223372036854775808) (hk : -9223372036854775808 ≤ kind ∧ kind < 9223372036854775808) (hS : St H0 B0 B (Ls ++ L) H) :
    Ev (fun k _ => rn k 34 [p, .int .i64 n, .int .i64 kind, str t] H) (DkP H0 B0 B L p (.int .i64 (D.pwrite n kind t).1) (D.pwrite n kind t).2) := by
  refine Ev.fn (fun k => f34_eq k _ _ _ _ H) ?_
  refine Ev.b2 (Seal_spec ht hk hS) ?_
  rintro _ H1 ⟨rfl, B1, hm1, hS1⟩
  dsimp only at hS1
  clear hS
  unfold SealV Dsk.pwrite
  have hso := @sealR_ok kind t
  generalize sealR kind t = sr at hso
  obtain ⟨s, e⟩ := sr
  dsimp only at hso ⊢
  by_cases h0 : e = 0
  case neg =>
    rw [if_pos (.inl h0)]
    repeat (first | refine Ev.s ?_ | refine Ev.newC fun _ _ _ => ?_ | refine Ev.boxC fun _ _ _ => ?_ | refine Ev.stC fun _ _ => ?_ | refine Ev.sc (by omega) ?_ | refine Ev.scg (by omega) ?_)
    rw [decide_eq_true h0]
    repeat (first | refine Ev.s ?_ | refine Ev.newC fun _ _ _ => ?_ | refine Ev.boxC fun _ _ _ => ?_ | refine Ev.stC fun _ _ => ?_ | refine Ev.sc (by omega) ?_ | refine Ev.scg (by omega) ?_)
    exact Ev.ret ⟨rfl, Ls, B1, hm1, hD, hS1⟩
  by_cases h1 : n < 0
  · rw [if_pos (.inr (.inl h1))]
    repeat (first | (first | refine Ev.s ?_ | refine Ev.newC fun _ _ _ => ?_ | refine Ev.boxC fun _ _ _ => ?_ | refine Ev.stC fun _ _ => ?_ | refine Ev.sc (by omega) ?_ | refine Ev.scg (by omega) ?_) | rw [decide_eq_true (by omega)] | rw [decide_eq_false (by omega)])
    exact Ev.ret ⟨rfl, Ls, B1, hm1, hD, hS1⟩
  by_cases h2 : n > 1048576
  · rw [if_pos (.inr (.inr h2))]
    repeat (first | (first | refine Ev.s ?_ | refine Ev.newC fun _ _ _ => ?_ | refine Ev.boxC fun _ _ _ => ?_ | refine Ev.stC fun _ _ => ?_ | refine Ev.sc (by omega) ?_ | refine Ev.scg (by omega) ?_) | rw [decide_eq_true (by omega)] | rw [decide_eq_false (by omega)])
    exact Ev.ret ⟨rfl, Ls, B1, hm1, hD, hS1⟩
  rw [if_neg (by omega)]
  obtain ⟨m, rfl⟩ : ∃ m : Nat, n = m := ⟨n.toNat, by omega⟩
  have hsl : s.length = 128 := by
    obtain ⟨_, _, _, _, h5, h6⟩ := hso h0
    rw [h6, seal_len h5]
  rw [show (2 : Int) * (m : Int) = ((2 * m : Nat) : Int) by omega, show ((2 * m : Nat) : Int) + 1 = ((2 * m + 1 : Nat) : Int) by omega]
  repeat (first | (first | refine Ev.s ?_ | refine Ev.newC fun _ _ _ => ?_ | refine Ev.boxC fun _ _ _ => ?_ | refine Ev.stC fun _ _ => ?_ | refine Ev.sc (by omega) ?_ | refine Ev.scg (by omega) ?_) | rw [decide_eq_true (by omega)] | rw [decide_eq_false (by omega)])
  refine Ev.prim (show slc Tryd.prog 9 (str s) none (some (.int .i64 64)) = some (str (s.take 64)) from slc_strT (l := s) (i := 64) (by omega)) ?_
  refine Ev.b2 (Write_spec (i := ((2 * m : Nat) : Int)) hD hO (by omega) hS1) ?_
  have hwo := hO.write ((2 * m : Nat) : Int) (s.take 64)
  have hwc := write_cache D ((2 * m : Nat) : Int) (s.take 64)
  generalize D.write ((2 * m : Nat) : Int) (s.take 64) = w at hwo hwc
  obtain ⟨w1, w2⟩ := w
  dsimp only at hwo hwc ⊢
  rintro _ H2 ⟨rfl, Ls2, B2, hm2, hD2, hS2⟩
  dsimp only at hS2
  clear hS1
  by_cases hw : w1 = 0
  case neg =>
    rw [if_pos hw]
    repeat (first | refine Ev.s ?_ | refine Ev.newC fun _ _ _ => ?_ | refine Ev.boxC fun _ _ _ => ?_ | refine Ev.stC fun _ _ => ?_ | refine Ev.sc (by omega) ?_ | refine Ev.scg (by omega) ?_)
    rw [decide_eq_true hw]
    repeat (first | refine Ev.s ?_ | refine Ev.newC fun _ _ _ => ?_ | refine Ev.boxC fun _ _ _ => ?_ | refine Ev.stC fun _ _ => ?_ | refine Ev.sc (by omega) ?_ | refine Ev.scg (by omega) ?_)
    exact Ev.ret ⟨rfl, Ls2, B2, ⟨hm1.mo.trans hm2.mo⟩, hD2, hS2⟩
  rw [if_neg (by simpa using hw)]
  repeat (first | refine Ev.s ?_ | refine Ev.newC fun _ _ _ => ?_ | refine Ev.boxC fun _ _ _ => ?_ | refine Ev.stC fun _ _ => ?_ | refine Ev.sc (by omega) ?_ | refine Ev.scg (by omega) ?_)
  rw [decide_eq_false (by simpa using hw)]
  repeat (first | (first | refine Ev.s ?_ | refine Ev.newC fun _ _ _ => ?_ | refine Ev.boxC fun _ _ _ => ?_ | refine Ev.stC fun _ _ => ?_ | refine Ev.sc (by omega) ?_ | refine Ev.scg (by omega) ?_) | rw [decide_eq_true (by omega)] | rw [decide_eq_false (by omega)])
  refine Ev.prim (show slc Tryd.prog 9 (str s) (some (.int .i64 64)) none = some (str (s.drop 64)) from slc_str (l := s) 64 rfl (by omega)) ?_
  refine Ev.b2 (Write_spec (i := ((2 * m + 1 : Nat) : Int)) hD2 hwo (by omega) hS2) ?_
  rintro _ H3 ⟨rfl, Ls3, B3, hm3, hD3, hS3⟩
  exact Ev.ret ⟨rfl, Ls3, B3, ⟨hm1.mo.trans (hm2.mo.trans hm3.mo)⟩, hD3, hS3⟩
theorem pRead_spec {p : Value} {D : Dsk} {Ls : List (Nat × Blk)} {n : Int} (hD : DK p D Ls) (hO : D.OK) (hc : D.cache.length < 1000000000000) (hS : St H0 B0 B (Ls ++ L) H) :
    Ev (fun k _ => rn k 62 [p, .int .i64 n] H) (fun r => r.1 = OpenV (D.pread n) ∧ ∃ B', MoC B B' ∧ St H0 B0 B' (Ls ++ L) r.2) := by
  refine Ev.fn (fun k => f62_eq k _ _ H) ?_
  unfold Dsk.pread
  by_cases h1 : n < 0
  · rw [if_pos (.inl h1)]
    repeat (first | (first | refine Ev.s ?_ | refine Ev.newC fun _ _ _ => ?_ | refine Ev.boxC fun _ _ _ => ?_ | refine Ev.stC fun _ _ => ?_ | refine Ev.sc (by omega) ?_ | refine Ev.scg (by omega) ?_) | rw [decide_eq_true (by omega)] | rw [decide_eq_false (by omega)])
    exact Ev.ret ⟨rfl, B, ⟨Mo.refl B⟩, hS⟩
  by_cases h2 : n > 1048576
  · rw [if_pos (.inr h2)]
    repeat (first | (first | refine Ev.s ?_ | refine Ev.newC fun _ _ _ => ?_ | refine Ev.boxC fun _ _ _ => ?_ | refine Ev.stC fun _ _ => ?_ | refine Ev.sc (by omega) ?_ | refine Ev.scg (by omega) ?_) | rw [decide_eq_true (by omega)] | rw [decide_eq_false (by omega)])
    exact Ev.ret ⟨rfl, B, ⟨Mo.refl B⟩, hS⟩
  rw [if_neg (by omega)]
  obtain ⟨m, rfl⟩ : ∃ m : Nat, n = m := ⟨n.toNat, by omega⟩
  rw [show (2 : Int) * (m : Int) = ((2 * m : Nat) : Int) by omega, show ((2 * m : Nat) : Int) + 1 = ((2 * m + 1 : Nat) : Int) by omega]
  repeat (first | (first | refine Ev.s ?_ | refine Ev.newC fun _ _ _ => ?_ | refine Ev.boxC fun _ _ _ => ?_ | refine Ev.stC fun _ _ => ?_ | refine Ev.sc (by omega) ?_ | refine Ev.scg (by omega) ?_) | rw [decide_eq_true (by omega)] | rw [decide_eq_false (by omega)])
  have h64a := read_len hO ((2 * m : Nat) : Int)
  have h64b := read_len hO ((2 * m + 1 : Nat) : Int)
  have key : Ev (fun k K => f62_L0 k p (i64 m) (str []) (i64 0) K H) (fun o => ∃ B' H', MoC B B' ∧ St H0 B0 B' (Ls ++ L) H' ∧
      (((D.read ((2 * m : Nat) : Int)).2 ≠ 0 ∧ o = (.ret, f62_X_L0 (.int .i64 0) (str []) (.int .i64 (D.read ((2 * m : Nat) : Int)).2) (str []), H'))
        ∨ ((D.read ((2 * m : Nat) : Int)).2 = 0 ∧ (D.read ((2 * m + 1 : Nat) : Int)).2 ≠ 0 ∧ o = (.ret, f62_X_L0 (.int .i64 0) (str []) (.int .i64 (D.read ((2 * m + 1 : Nat) : Int)).2) (str (D.read ((2 * m : Nat) : Int)).1), H'))
        ∨ ((D.read ((2 * m : Nat) : Int)).2 = 0 ∧ (D.read ((2 * m + 1 : Nat) : Int)).2 = 0 ∧ o = (.exit 0, f62_X_L0 unk unk unk (str ((D.read ((2 * m : Nat) : Int)).1 ++ (D.read ((2 * m + 1 : Nat) : Int)).1)), H')))) := by
    refine Ev.succ (fun k K => f62_L0_succ k _ _ _ _ K H) ?_
    repeat (first | (first | refine Ev.s ?_ | refine Ev.newC fun _ _ _ => ?_ | refine Ev.boxC fun _ _ _ => ?_ | refine Ev.stC fun _ _ => ?_ | refine Ev.sc (by omega) ?_ | refine Ev.scg (by omega) ?_) | rw [decide_eq_true (by omega)] | rw [decide_eq_false (by omega)])
    refine Ev.b2 (Read_spec (i := ((2 * m : Nat) : Int)) hD hO hc (by exact hS)) ?_
    generalize D.read ((2 * m : Nat) : Int) = ra at h64a
    generalize hrb : D.read ((2 * m + 1 : Nat) : Int) = rb at h64b
    obtain ⟨a, ea⟩ := ra
    obtain ⟨b, eb⟩ := rb
    try dsimp only at h64a h64b ⊢
    rintro _ H1 ⟨rfl, B1, hm1, hS1⟩
    try dsimp only at hS1
    clear hS
    repeat (first | refine Ev.s ?_ | refine Ev.newC fun _ _ _ => ?_ | refine Ev.boxC fun _ _ _ => ?_ | refine Ev.stC fun _ _ => ?_ | refine Ev.sc (by omega) ?_ | refine Ev.scg (by omega) ?_)
    by_cases he : ea = 0
    case neg =>
      rw [decide_eq_true he]
      repeat (first | refine Ev.s ?_ | refine Ev.newC fun _ _ _ => ?_ | refine Ev.boxC fun _ _ _ => ?_ | refine Ev.stC fun _ _ => ?_ | refine Ev.sc (by omega) ?_ | refine Ev.scg (by omega) ?_)
      exact Ev.ret ⟨B1, H1, hm1, hS1, .inl ⟨he, rfl⟩⟩
    rw [decide_eq_false (by simpa using he)]
    repeat (first | refine Ev.s ?_ | refine Ev.newC fun _ _ _ => ?_ | refine Ev.boxC fun _ _ _ => ?_ | refine Ev.stC fun _ _ => ?_ | refine Ev.sc (by omega) ?_ | refine Ev.scg (by omega) ?_)
    refine Ev.prim (show bin Tryd.prog .add 9 (str []) (str a) = some (str a) from add_str (a := []) (b := a) (by simp; omega)) ?_
    repeat (first | refine Ev.s ?_ | refine Ev.newC fun _ _ _ => ?_ | refine Ev.boxC fun _ _ _ => ?_ | refine Ev.stC fun _ _ => ?_ | refine Ev.sc (by omega) ?_ | refine Ev.scg (by omega) ?_)
    refine Ev.succ (fun k K => f62_L0_succ k _ _ _ _ K H1) ?_
    repeat (first | (first | refine Ev.s ?_ | refine Ev.newC fun _ _ _ => ?_ | refine Ev.boxC fun _ _ _ => ?_ | refine Ev.stC fun _ _ => ?_ | refine Ev.sc (by omega) ?_ | refine Ev.scg (by omega) ?_) | rw [decide_eq_true (by omega)] | rw [decide_eq_false (by omega)])
    refine Ev.b2 (Read_spec (i := ((2 * m + 1 : Nat) : Int)) hD hO hc (by exact hS1)) ?_
    rw [hrb]
    rintro _ H2 ⟨rfl, B2, hm2, hS2⟩
    dsimp only at hS2
    clear hS1
    repeat (first | refine Ev.s ?_ | refine Ev.newC fun _ _ _ => ?_ | refine Ev.boxC fun _ _ _ => ?_ | refine Ev.stC fun _ _ => ?_ | refine Ev.sc (by omega) ?_ | refine Ev.scg (by omega) ?_)
    by_cases he2 : eb = 0
    case neg =>
      rw [decide_eq_true he2]
      repeat (first | refine Ev.s ?_ | refine Ev.newC fun _ _ _ => ?_ | refine Ev.boxC fun _ _ _ => ?_ | refine Ev.stC fun _ _ => ?_ | refine Ev.sc (by omega) ?_ | refine Ev.scg (by omega) ?_)
      exact Ev.ret ⟨B2, H2, ⟨hm1.mo.trans hm2.mo⟩, hS2, .inr (.inl ⟨he, he2, rfl⟩)⟩
    rw [decide_eq_false (by simpa using he2)]
    repeat (first | refine Ev.s ?_ | refine Ev.newC fun _ _ _ => ?_ | refine Ev.boxC fun _ _ _ => ?_ | refine Ev.stC fun _ _ => ?_ | refine Ev.sc (by omega) ?_ | refine Ev.scg (by omega) ?_)
    refine Ev.prim (add_str (a := a) (b := b) (by omega)) ?_
    repeat (first | refine Ev.s ?_ | refine Ev.newC fun _ _ _ => ?_ | refine Ev.boxC fun _ _ _ => ?_ | refine Ev.stC fun _ _ => ?_ | refine Ev.sc (by omega) ?_ | refine Ev.scg (by omega) ?_)
    refine Ev.succ (fun k K => f62_L0_succ k _ _ _ _ K H2) ?_
    repeat (first | (first | refine Ev.s ?_ | refine Ev.newC fun _ _ _ => ?_ | refine Ev.boxC fun _ _ _ => ?_ | refine Ev.stC fun _ _ => ?_ | refine Ev.sc (by omega) ?_ | refine Ev.scg (by omega) ?_) | rw [decide_eq_true (by omega)] | rw [decide_eq_false (by omega)])
    exact Ev.ret ⟨B2, H2, ⟨hm1.mo.trans hm2.mo⟩, hS2, .inr (.inr ⟨he, he2, rfl⟩)⟩
  refine Ev.bind (Ev.loop key) ?_
  generalize D.read ((2 * m : Nat) : Int) = ra at h64a
  generalize D.read ((2 * m + 1 : Nat) : Int) = rb at h64b
  obtain ⟨a, ea⟩ := ra
  obtain ⟨b, eb⟩ := rb
  try dsimp only at h64a h64b ⊢
  rintro o ⟨B1, H1, hm1, hS1, ⟨he, rfl⟩ | ⟨he, he2, rfl⟩ | ⟨he, he2, rfl⟩⟩
  · rw [if_pos he]
    refine Ev.eq (fun k _ => f62_A0_ret k _ _ _ _ H1) ?_
    exact Ev.ret ⟨rfl, B1, hm1, hS1⟩
  · rw [if_neg (by simpa using he), if_pos he2]
    refine Ev.eq (fun k _ => f62_A0_ret k _ _ _ _ H1) ?_
    exact Ev.ret ⟨rfl, B1, hm1, hS1⟩
  rw [if_neg (by simpa using he), if_neg (by simpa using he2)]
  refine Ev.eq (fun k _ => f62_A0_x0 k _ _ _ _ H1) ?_
  refine Ev.b2 (Open_spec (b := a ++ b) (by rw [List.length_append]; omega) hS1) ?_
  rintro _ H2 ⟨rfl, B2, hm2, hS2⟩
  dsimp only at hS2
  unfold OpenV
  repeat (first | refine Ev.s ?_ | refine Ev.newC fun _ _ _ => ?_ | refine Ev.boxC fun _ _ _ => ?_ | refine Ev.stC fun _ _ => ?_ | refine Ev.sc (by omega) ?_ | refine Ev.scg (by omega) ?_)
  exact Ev.ret ⟨rfl, B2, ⟨hm1.mo.trans hm2.mo⟩, hS2⟩
end
end Go.AM.C
set_option linter.unusedVariables false
set_option linter.unusedSimpArgs false
set_option maxRecDepth 100000
namespace Go.AM.C
open Go Go.AM Go.Proofs
attribute [local irreducible] run bin un ld st box newV mkS fldA fld ixA ix slc slc3 build buildS cv cvS ap cpy lenV gOp pickV b2 aIf aChk evalK resume iterD Option.bind

section
variable {B B0 H0 H : AH} {L : List (Nat × Blk)}
abbrev FR := FRS 3
def PK (p dv : Value) (G : Pgr) (D : Dsk) (Ls : List (Nat × Blk)) : Prop := ∃ pb mb fv Lf Ld, p = ptr pb 0 ∧ DK dv D Ld ∧ FR fv G.fresh Lf ∧ Ls = (pb, ⟨[i64 G.turn, .int .i64 G.root, .map (some mb), dv, fv, .bool G.down], 65, .fix⟩) :: (mb, ⟨entI G.used, 60, .map⟩) :: (Lf ++ Ld)
/-- Behind a call that leaves a pager and its disk. -/
def PgP (H0 B0 B : AH) (L : List (Nat × Blk)) (p dv v : Value) (G : Pgr) (D : Dsk) (r : Value × AH) : Prop := r.1 = v ∧ ∃ Ls B', MoC B B' ∧ PK p dv G D Ls ∧ St H0 B0 B' (Ls ++ L) r.2
theorem eltI : Elt Tryd.prog 63 3 (.int .i64 0) 8 := inferInstance
theorem pages_spec {dv : Value} {D : Dsk} {Ls Lx : List (Nat × Blk)} (hD : DK dv D Ls) (hO : D.OK) (hS : St H0 B0 B Lx H) (hsub : ∀ x ∈ Ls, x ∈ Lx) :
    Ev (fun k _ => rn k 18 [dv] H) (fun r => r = (i64 (D.n / 2), H)) := by
  refine Ev.fn (fun k => f18_eq k _ H) ?_
  have h2 := hO.n2
  refine Ev.b2 (Sectors_spec hD hO hS hsub) ?_
  rintro v H1 h
  cases h
  repeat (first | (first | refine Ev.s ?_ | refine Ev.newC fun _ _ _ => ?_ | refine Ev.boxC fun _ _ _ => ?_ | refine Ev.stC fun _ _ => ?_ | refine Ev.sc (by omega) ?_ | refine Ev.scg (by omega) ?_) | rw [decide_eq_true (by omega)] | rw [decide_eq_false (by omega)])
  exact Ev.ret rfl
theorem Index_spec {v : Value} {l : List Int} {Lf Lx : List (Nat × Blk)} (x : Int) (hF : FR v l Lf) (hl : l.length < 1000000000000) (hS : St H0 B0 B Lx H) (hsub : ∀ p ∈ Lf, p ∈ Lx) :
    Ev (fun k _ => rn k 63 [v, .int .i64 x] H) (fun r => ∃ j : Int, r = (.int .i64 j, H) ∧ (0 ≤ j ↔ x ∈ l)) := by
  refine Ev.fn (fun k => f63_eq k _ _ H) ?_
  refine Ev.prim (hF.len (Und.eq (P := Tryd.prog) (t := 63))) ?_
  have hN := hF.now hS hsub
  have key : ∀ (m i : Nat), i + m = l.length → (∀ q, q < i → l[q]? ≠ some x) → Ev (fun k K => f63_L0 k v (.int .i64 x) (i64 l.length) (i64 i) K H)
      (fun o => (o = (.exit 0, f63_X_L0 unk, H) ∧ x ∉ l) ∨ (∃ j : Nat, o = (.ret, f63_X_L0 (i64 j), H) ∧ x ∈ l)) := by
    intro m
    induction m with
    | zero =>
      intro i hi hno
      refine Ev.succ (fun k K => f63_L0_succ k _ _ _ _ K H) ?_
      repeat (first | refine Ev.s ?_ | refine Ev.newC fun _ _ _ => ?_ | refine Ev.boxC fun _ _ _ => ?_ | refine Ev.stC fun _ _ => ?_ | refine Ev.sc (by omega) ?_ | refine Ev.scg (by omega) ?_)
      rw [decide_eq_false (by omega)]
      repeat (first | refine Ev.s ?_ | refine Ev.newC fun _ _ _ => ?_ | refine Ev.boxC fun _ _ _ => ?_ | refine Ev.stC fun _ _ => ?_ | refine Ev.sc (by omega) ?_ | refine Ev.scg (by omega) ?_)
      refine Ev.ret (.inl ⟨rfl, fun hx => ?_⟩)
      obtain ⟨q, hq⟩ := List.getElem?_of_mem hx
      exact hno q (by have := (List.getElem?_eq_some_iff.1 hq).1; omega) hq
    | succ m ih =>
      intro i hi hno
      refine Ev.succ (fun k K => f63_L0_succ k _ _ _ _ K H) ?_
      repeat (first | refine Ev.s ?_ | refine Ev.newC fun _ _ _ => ?_ | refine Ev.boxC fun _ _ _ => ?_ | refine Ev.stC fun _ _ => ?_ | refine Ev.sc (by omega) ?_ | refine Ev.scg (by omega) ?_)
      rw [decide_eq_true (by omega)]
      repeat (first | refine Ev.s ?_ | refine Ev.newC fun _ _ _ => ?_ | refine Ev.boxC fun _ _ _ => ?_ | refine Ev.stC fun _ _ => ?_ | refine Ev.sc (by omega) ?_ | refine Ev.scg (by omega) ?_)
      have hx : (intV l)[i]? = some (.int .i64 l[i]) := by unfold intV; rw [List.getElem?_map, List.getElem?_eq_getElem (by omega)]; rfl
      refine Ev.ixN (t := 63) hN i rfl (by omega) hx fun p hp => ?_
      refine Ev.prim (hp.eq H (Mo.refl H)) ?_
      repeat (first | refine Ev.s ?_ | refine Ev.newC fun _ _ _ => ?_ | refine Ev.boxC fun _ _ _ => ?_ | refine Ev.stC fun _ _ => ?_ | refine Ev.sc (by omega) ?_ | refine Ev.scg (by omega) ?_)
      by_cases he : x = l[i]
      · rw [decide_eq_true he]
        repeat (first | refine Ev.s ?_ | refine Ev.newC fun _ _ _ => ?_ | refine Ev.boxC fun _ _ _ => ?_ | refine Ev.stC fun _ _ => ?_ | refine Ev.sc (by omega) ?_ | refine Ev.scg (by omega) ?_)
        exact Ev.ret (.inr ⟨i, rfl, by rw [he]; exact List.getElem_mem _⟩)
      · rw [decide_eq_false he]
        repeat (first | (first | refine Ev.s ?_ | refine Ev.newC fun _ _ _ => ?_ | refine Ev.boxC fun _ _ _ => ?_ | refine Ev.stC fun _ _ => ?_ | refine Ev.sc (by omega) ?_ | refine Ev.scg (by omega) ?_) | rw [decide_eq_true (by omega)] | rw [decide_eq_false (by omega)])
        refine ih (i + 1) (by omega) fun q hq => ?_
        by_cases hqi : q = i
        · subst hqi; rw [List.getElem?_eq_getElem (by omega)]; intro h; exact he (Option.some.inj h).symm
        · exact hno q (by omega)
  refine Ev.bind (Ev.loop (key l.length 0 (by omega) fun q hq => by omega)) ?_
  rintro _ (⟨rfl, hx⟩ | ⟨j, rfl, hx⟩)
  · refine Ev.eq (fun k _ => f63_A0_x0 k _ H) ?_
    exact Ev.ret ⟨-1, rfl, by simp [hx]⟩
  · refine Ev.eq (fun k _ => f63_A0_ret k _ H) ?_
    exact Ev.ret ⟨j, rfl, by simp [hx]⟩
theorem Contains_spec {v : Value} {l : List Int} {Lf Lx : List (Nat × Blk)} (x : Int) (hF : FR v l Lf) (hl : l.length < 1000000000000) (hS : St H0 B0 B Lx H) (hsub : ∀ p ∈ Lf, p ∈ Lx) :
    Ev (fun k _ => rn k 56 [v, .int .i64 x] H) (fun r => r = (.bool (decide (x ∈ l)), H)) := by
  refine Ev.fn (fun k => f56_eq k _ _ H) ?_
  refine Ev.b2 (Index_spec x hF hl hS hsub) ?_
  rintro _ _ ⟨j, h, hj⟩
  cases h
  repeat (first | refine Ev.s ?_ | refine Ev.newC fun _ _ _ => ?_ | refine Ev.boxC fun _ _ _ => ?_ | refine Ev.stC fun _ _ => ?_ | refine Ev.sc (by omega) ?_ | refine Ev.scg (by omega) ?_)
  refine Ev.ret ?_
  rw [decide_eq_decide.2 hj]
theorem may_spec {t : Value} {mb : Nat} {U : List Int} {root x : Int} (hm : InL mb ⟨entI U, 60, .map⟩ L) [IsCell t] (hS : St H0 B0 B L H) :
    Ev (fun k _ => rn k 25 [.agg #[t, .int .i64 root, .map (some mb)], .int .i64 x] H) (fun r => r.1 = .bool (mayR U x) ∧ ∃ b c, St H0 B0 B ((b, c) :: L) r.2) := by
  refine Ev.fn (fun k => f25_eq k _ _ H) ?_
  unfold mayR
  repeat (first | refine Ev.s ?_ | refine Ev.newC fun _ _ _ => ?_ | refine Ev.boxC fun _ _ _ => ?_ | refine Ev.stC fun _ _ => ?_ | refine Ev.sc (by omega) ?_ | refine Ev.scg (by omega) ?_)
  by_cases h0 : x = 0
  · rw [decide_eq_true h0]
    repeat (first | refine Ev.s ?_ | refine Ev.newC fun _ _ _ => ?_ | refine Ev.boxC fun _ _ _ => ?_ | refine Ev.stC fun _ _ => ?_ | refine Ev.sc (by omega) ?_ | refine Ev.scg (by omega) ?_)
    exact Ev.ret ⟨rfl, _, _, by assumption⟩
  rw [decide_eq_false h0]
  repeat (first | refine Ev.s ?_ | refine Ev.newC fun _ _ _ => ?_ | refine Ev.boxC fun _ _ _ => ?_ | refine Ev.stC fun _ _ => ?_ | refine Ev.sc (by omega) ?_ | refine Ev.scg (by omega) ?_)
  by_cases h1 : 2 ≤ x
  · rw [decide_eq_true h1]
    repeat (first | refine Ev.s ?_ | refine Ev.newC fun _ _ _ => ?_ | refine Ev.boxC fun _ _ _ => ?_ | refine Ev.stC fun _ _ => ?_ | refine Ev.sc (by omega) ?_ | refine Ev.scg (by omega) ?_)
    rename_i b H1 hS1
    refine Ev.gPrim (lkI (kt := 3) (et := 4) (Und.eq (P := Tryd.prog) (t := 60)) (Und.eq (P := Tryd.prog) (t := 3)) (by kernel_rfl) hS1 (.tail _ hm.mem)) rfl ?_
    repeat (first | refine Ev.s ?_ | refine Ev.newC fun _ _ _ => ?_ | refine Ev.boxC fun _ _ _ => ?_ | refine Ev.stC fun _ _ => ?_ | refine Ev.sc (by omega) ?_ | refine Ev.scg (by omega) ?_)
    exact Ev.ret ⟨rfl, _, _, hS1⟩
  · rw [decide_eq_false h1]
    repeat (first | refine Ev.s ?_ | refine Ev.newC fun _ _ _ => ?_ | refine Ev.boxC fun _ _ _ => ?_ | refine Ev.stC fun _ _ => ?_ | refine Ev.sc (by omega) ?_ | refine Ev.scg (by omega) ?_)
    exact Ev.ret ⟨rfl, _, _, by assumption⟩
theorem told_spec {pb : Nat} {tv rv mv dv fv : Value} {dn : Bool} {e : Int} {Lx Ly : List (Nat × Blk)} (hm : (pb, ⟨[tv, rv, mv, dv, fv, .bool dn], 65, .fix⟩) ∈ Lx) (hu : Upd pb ⟨[tv, rv, mv, dv, fv, .bool dn], 65, .fix⟩ ⟨[tv, rv, mv, dv, fv, .bool (dn || decide (e = 7))], 65, .fix⟩ Lx Ly) [IsCell tv] [IsCell rv] [IsCell mv] [IsCell dv] [IsCell fv] (hS : St H0 B0 B Lx H) :
    Ev (fun k _ => rn k 43 [ptr pb 0, .int .i64 e] H) (fun r => r.1 = .int .i64 e ∧ St H0 B0 B Ly r.2) := by
  have i1 : InL pb _ Lx := ⟨hm⟩
  refine Ev.fn (fun k => f43_eq k _ _ H) ?_
  cases dn with
  | true =>
    have i2 : UpL pb ⟨[tv, rv, mv, dv, fv, .bool true], 65, .fix⟩ ⟨[tv, rv, mv, dv, fv, .bool true], 65, .fix⟩ Lx Ly := ⟨hu⟩
    repeat (first | refine Ev.s ?_ | refine Ev.newC fun _ _ _ => ?_ | refine Ev.boxC fun _ _ _ => ?_ | refine Ev.stC fun _ _ => ?_ | refine Ev.sc (by omega) ?_ | refine Ev.scg (by omega) ?_)
    exact Ev.ret ⟨rfl, by assumption⟩
  | false =>
    have i2 : UpL pb ⟨[tv, rv, mv, dv, fv, .bool false], 65, .fix⟩ ⟨[tv, rv, mv, dv, fv, .bool (decide (e = 7))], 65, .fix⟩ Lx Ly := ⟨hu⟩
    repeat (first | refine Ev.s ?_ | refine Ev.newC fun _ _ _ => ?_ | refine Ev.boxC fun _ _ _ => ?_ | refine Ev.stC fun _ _ => ?_ | refine Ev.sc (by omega) ?_ | refine Ev.scg (by omega) ?_)
    exact Ev.ret ⟨rfl, by assumption⟩
end
end Go.AM.C
set_option linter.unusedVariables false
set_option linter.unusedSimpArgs false
set_option maxRecDepth 100000
namespace Go.AM.C
open Go Go.AM Go.Proofs
attribute [local irreducible] run bin un ld st box newV mkS fldA fld ixA ix slc slc3 build buildS cv cvS ap cpy lenV gOp pickV b2 aIf aChk evalK resume iterD Option.bind

section
variable {B B0 H0 H : AH} {L : List (Nat × Blk)}
def tB (t : Nat) : List Value := (List.range 6).map fun i => u8 (t / 2 ^ (8 * (5 - i)) % 256)
theorem tB_len (t : Nat) : (tB t).length = 6 := by simp [tB]
theorem text_loop {hb b t : Nat} {rv mv : Value} (ht : t < 281474976710656) [IsCell rv] [IsCell mv] : ∀ (m i : Nat) (H : AH), i + m = 6 →
    St H0 B0 B ((b, ⟨(tB t).take i ++ List.replicate (72 - i) (.int .u8 0), 5, .fix⟩) :: (hb, ⟨[i64 t, rv, mv], 62, .fix⟩) :: L) H →
    Ev (fun k K => f35_L0 k (ptr hb 0) (sl b 0 72 72) (i64 i) K H) (fun o => ∃ H', o = (.exit 0, f35_X_L0 (ptr hb 0) (sl b 0 72 72), H') ∧
      St H0 B0 B ((b, ⟨tB t ++ List.replicate 66 (.int .u8 0), 5, .fix⟩) :: (hb, ⟨[i64 t, rv, mv], 62, .fix⟩) :: L) H') := by
  intro m
  induction m with
  | zero =>
    intro i H hi hS
    have : i = 6 := by omega
    subst this
    refine Ev.succ (fun k K => f35_L0_succ k _ _ _ K H) ?_
    repeat (first | (first | refine Ev.s ?_ | refine Ev.newC fun _ _ _ => ?_ | refine Ev.boxC fun _ _ _ => ?_ | refine Ev.stC fun _ _ => ?_ | refine Ev.sc (by omega) ?_ | refine Ev.scg (by omega) ?_) | rw [decide_eq_true (by omega)] | rw [decide_eq_false (by omega)])
    refine Ev.ret ⟨H, rfl, ?_⟩
    rw [List.take_of_length_le (by rw [tB_len]; decide)] at hS
    exact hS
  | succ m ih =>
    intro i H hi hS
    refine Ev.succ (fun k K => f35_L0_succ k _ _ _ K H) ?_
    repeat (first | (first | refine Ev.s ?_ | refine Ev.newC fun _ _ _ => ?_ | refine Ev.boxC fun _ _ _ => ?_ | refine Ev.stC fun _ _ => ?_ | refine Ev.sc (by omega) ?_ | refine Ev.scg (by omega) ?_) | rw [decide_eq_true (by omega)] | rw [decide_eq_false (by omega)])
    refine Ev.prim (shrN (show 8 * (5 - i) < IntKind.i64.bits by show _ < 64; omega)) ?_
    refine Ev.prim (toU8 (Und.eq (P := Tryd.prog) (t := 3)) (Und.eq (P := Tryd.prog) (t := 5))) ?_
    have hE : Elt Tryd.prog 55 5 (.int .u8 0) 1 := inferInstance
    refine Ev.prim (ixA_own hE (show i < 72 by omega)) ?_
    rw [Nat.zero_add]
    have hlen : ((tB t).take i ++ List.replicate (72 - i) (Value.int .u8 0)).length = 72 := by rw [List.length_append, List.length_take, tB_len, List.length_replicate]; omega
    refine Ev.st hS (.head _) (stK_own hE (by rw [hlen]; omega) rfl) rfl (.head _) fun H' hS' => ?_
    repeat (first | (first | refine Ev.s ?_ | refine Ev.newC fun _ _ _ => ?_ | refine Ev.boxC fun _ _ _ => ?_ | refine Ev.stC fun _ _ => ?_ | refine Ev.sc (by omega) ?_ | refine Ev.scg (by omega) ?_) | rw [decide_eq_true (by omega)] | rw [decide_eq_false (by omega)])
    refine ih (i + 1) H' (by omega) ?_
    have e : ((tB t).take i ++ List.replicate (72 - i) (Value.int .u8 0)).set i (u8 (t / 2 ^ (8 * (5 - i)) % 256)) = (tB t).take (i + 1) ++ List.replicate (72 - (i + 1)) (.int .u8 0) := by
      have h6 : (tB t)[i]? = some (u8 (t / 2 ^ (8 * (5 - i)) % 256)) := by unfold tB; rw [List.getElem?_map, List.getElem?_range (by omega)]; rfl
      rw [List.take_add_one, h6]
      have hl : ((tB t).take i).length = i := by rw [List.length_take, tB_len]; omega
      rw [List.set_append_right _ _ (by omega), hl, Nat.sub_self, show 72 - i = (72 - (i + 1)) + 1 by omega, List.replicate_succ]
      simp
    rw [e] at hS'
    exact hS'
theorem tB_bytes (t : Nat) : tB t = byts (turnB t) := by
  unfold tB turnB byts
  rw [List.map_map, List.map_map]
  apply List.map_congr_left
  intro i hi
  have hi : i < 6 := by simpa using hi
  show _ = u8 (UInt8.ofNat (t / 256 ^ (5 - i))).toNat
  rw [show (UInt8.ofNat (t / 256 ^ (5 - i))).toNat = t / 256 ^ (5 - i) % 256 from rfl, Nat.pow_mul]
theorem text_spec {t r mb : Nat} {U : List Int} (ht : t < 281474976710656) (hr : r < 65536) (hU : ∀ n ∈ U, 0 ≤ n ∧ n < 512) (hm : (mb, ⟨entI U, 60, .map⟩) ∈ L) (hS : St H0 B0 B L H) :
    Ev (fun k _ => rn k 35 [.agg #[i64 t, i64 r, .map (some mb)]] H) (fun o => o.1 = str (textH t (r : Int) U) ∧ ∃ B', MoC B B' ∧ St H0 B0 B' L o.2) := by
  refine Ev.fn (fun k => f35_eq k _ H) ?_
  repeat (first | refine Ev.s ?_ | refine Ev.newC fun _ _ _ => ?_ | refine Ev.boxC fun _ _ _ => ?_ | refine Ev.stC fun _ _ => ?_ | refine Ev.sc (by omega) ?_ | refine Ev.scg (by omega) ?_)
  rename_i hb H1 hS1
  have hE : Elt Tryd.prog 55 5 (.int .u8 0) 1 := inferInstance
  refine Ev.mkS (t := 55) (m := 72) inferInstance hS1 (by omega) (by omega) fun b B' H2 hm2 hS2 => ?_
  clear hS hS1
  refine Ev.bind (Ev.loop (text_loop ht 6 0 H2 rfl (by simpa using hS2))) ?_
  clear hS2
  rintro _ ⟨H3, rfl, hS3⟩
  refine Ev.eq (fun k _ => f35_A0_x0 k _ _ H3) ?_
  repeat (first | refine Ev.s ?_ | refine Ev.newC fun _ _ _ => ?_ | refine Ev.boxC fun _ _ _ => ?_ | refine Ev.stC fun _ _ => ?_ | refine Ev.sc (by omega) ?_ | refine Ev.scg (by omega) ?_)
  refine Ev.prim (shrL (by decide)) ?_
  refine Ev.prim (toU8 (Und.eq (P := Tryd.prog) (t := 3)) (Und.eq (P := Tryd.prog) (t := 5))) ?_
  repeat (first | refine Ev.s ?_ | refine Ev.newC fun _ _ _ => ?_ | refine Ev.boxC fun _ _ _ => ?_ | refine Ev.stC fun _ _ => ?_ | refine Ev.sc (by omega) ?_ | refine Ev.scg (by omega) ?_)
  refine Ev.prim (show ixA Tryd.prog 55 (sl b 0 72 72) (.int .i64 6) = some (ptr b 6) from ixA_own (i := 6) hE (by decide)) ?_
  refine Ev.st hS3 (.head _) (stK_own (i := 6) hE (by simp [tB_len]) rfl) rfl (.head _) fun H4 hS4 => ?_
  clear hS3
  repeat (first | refine Ev.s ?_ | refine Ev.newC fun _ _ _ => ?_ | refine Ev.boxC fun _ _ _ => ?_ | refine Ev.stC fun _ _ => ?_ | refine Ev.sc (by omega) ?_ | refine Ev.scg (by omega) ?_)
  refine Ev.prim (show ixA Tryd.prog 55 (sl b 0 72 72) (.int .i64 7) = some (ptr b 7) from ixA_own (i := 7) hE (by decide)) ?_
  refine Ev.st hS4 (.head _) (stK_own (i := 7) hE (by simp [tB_len]) rfl) rfl (.head _) fun H5 hS5 => ?_
  clear hS4
  have e : ((tB t ++ List.replicate 66 (Value.int .u8 0)).set 6 (u8 (r / 2 ^ 8 % 256))).set 7 (u8 (r % 256)) = (tB t ++ [u8 (r / 2 ^ 8 % 256), u8 (r % 256)]) ++ List.replicate 64 (.int .u8 0) := by
    rw [List.set_append_right _ _ (by rw [tB_len]; decide), tB_len, List.set_append_right _ _ (by rw [tB_len]; decide), tB_len, List.append_assoc]
    rfl
  rw [e] at hS5
  refine AM.Ev.gText (cs := tB t ++ [u8 (r / 2 ^ 8 % 256), u8 (r % 256)]) hS5 (.tail _ (.head _)) (.tail _ (.tail _ hm)) (.head _) (.head _) (by simp [tB_len]) hU fun H6 hS6 => ?_
  clear hS5
  have e2 : (tB t ++ [u8 (r / 2 ^ 8 % 256), u8 (r % 256)]) ++ bmV U = byts (textH t (r : Int) U) := by
    rw [tB_bytes, bmV_byts]
    unfold textH
    rw [byts_app, byts_app, List.append_assoc]
    congr 2
  rw [e2] at hS6
  refine Ev.prim (cvS_part (d := 9) (bs := textH t (r : Int) U) hS6 (.head _) (by omega) (by rw [textH_len]; omega)) ?_
  rw [List.drop_zero, List.take_of_length_le (by rw [textH_len]; exact Nat.le_refl _)]
  exact Ev.ret ⟨rfl, B', ⟨hm2⟩, hS6.drop1.drop1⟩
/-- A head is written. -/
theorem hwrite_spec {dv : Value} {D : Dsk} {Ls : List (Nat × Blk)} {t r mb : Nat} {U : List Int} (hD : DK dv D Ls) (hO : D.OK) (hc : D.cache.length + 1 < 1000000000000) (ht : t < 281474976710656) (hr : r < 65536) (hU : ∀ n ∈ U, 0 ≤ n ∧ n < 512) (hm : (mb, ⟨entI U, 60, .map⟩) ∈ L) (hS : St H0 B0 B (Ls ++ L) H) :
    Ev (fun k _ => rn k 19 [.agg #[i64 t, i64 r, .map (some mb)], dv] H) (DkP H0 B0 B L dv (.int .i64 (hwrite D t (r : Int) U).1) (hwrite D t (r : Int) U).2) := by
  refine Ev.fn (fun k => f19_eq k _ _ H) ?_
  repeat (first | refine Ev.s ?_ | refine Ev.newC fun _ _ _ => ?_ | refine Ev.boxC fun _ _ _ => ?_ | refine Ev.stC fun _ _ => ?_ | refine Ev.sc (by omega) ?_ | refine Ev.scg (by omega) ?_)
  rename_i hb H1 hS1
  clear hS
  refine Ev.b2 (text_spec ht hr hU (.tail _ (List.mem_append_right _ hm)) hS1) ?_
  rintro _ H2 ⟨rfl, B2, hm2, hS2⟩
  dsimp only at hS2
  clear hS1
  repeat (first | refine Ev.s ?_ | refine Ev.newC fun _ _ _ => ?_ | refine Ev.boxC fun _ _ _ => ?_ | refine Ev.stC fun _ _ => ?_ | refine Ev.sc (by omega) ?_ | refine Ev.scg (by omega) ?_)
  have hS3 : St H0 B0 B2 (Ls ++ ((hb, _) :: L)) H2 := hS2.perm (List.perm_middle)
  refine Ev.b2 (pWrite_spec (n := ((t % 2 : Nat) : Int)) (kind := 1) hD hO hc (by rw [textH_len]; decide) (by decide) hS3) ?_
  rintro _ H3 ⟨rfl, Ls3, B3, hm3, hD3, hS4⟩
  dsimp only at hS4
  refine Ev.ret ⟨rfl, Ls3, B3, ⟨hm2.mo.trans hm3.mo⟩, hD3, ?_⟩
  exact (hS4.perm (List.perm_middle).symm).drop1
end
end Go.AM.C
set_option linter.unusedVariables false
set_option linter.unusedSimpArgs false
set_option maxRecDepth 100000
namespace Go.AM.C
open Go Go.AM Go.Proofs
attribute [local irreducible] run bin un ld st box newV mkS fldA fld ixA ix slc slc3 build buildS cv cvS ap cpy lenV gOp pickV b2 aIf aChk evalK resume iterD Option.bind

section
variable {B B0 H0 H : AH} {L : List (Nat × Blk)}
theorem DK.ptr {dv : Value} {D : Dsk} {Ls : List (Nat × Blk)} (h : DK dv D Ls) : ∃ d, dv = ptr d 0 := by obtain ⟨d, bb, cv, Lc, hp, _⟩ := h; exact ⟨d, hp⟩
theorem Format_spec {dv : Value} {D : Dsk} {Ls : List (Nat × Blk)} (hD : DK dv D Ls) (hO : D.OK) (hc : D.cache.length + 2 < 1000000000000) (hS : St H0 B0 B (Ls ++ L) H) :
    Ev (fun k _ => rn k 7 [dv] H) (fun r => (D.format.1 ≠ 0 ∧ DkP H0 B0 B L dv (.tuple #[.pointer none, .int .i64 D.format.1]) D.format.2 r) ∨ (D.format.1 = 0 ∧ ∃ p, PgP H0 B0 B L p dv (.tuple #[p, .int .i64 0]) ⟨1, 0, [0, 1], [], false⟩ D.format.2 r)) := by
  refine Ev.fn (fun k => f7_eq k _ H) ?_
  have h2 := hO.n2
  refine Ev.b2 (pages_spec hD hO hS fun x hx => List.mem_append_left _ hx) ?_
  rintro v H1 h
  cases h
  unfold Dsk.format
  by_cases h4 : D.n / 2 < 4
  · rw [if_pos h4]
    repeat (first | (first | refine Ev.s ?_ | refine Ev.newC fun _ _ _ => ?_ | refine Ev.boxC fun _ _ _ => ?_ | refine Ev.stC fun _ _ => ?_ | refine Ev.sc (by omega) ?_ | refine Ev.scg (by omega) ?_) | rw [decide_eq_true (by omega)] | rw [decide_eq_false (by omega)])
    exact Ev.ret (.inl ⟨by simp, rfl, Ls, B, ⟨Mo.refl B⟩, hD, hS⟩)
  rw [if_neg h4]
  obtain ⟨d, rfl⟩ := hD.ptr
  repeat (first | (first | refine Ev.s ?_ | refine Ev.newC fun _ _ _ => ?_ | refine Ev.boxC fun _ _ _ => ?_ | refine Ev.stC fun _ _ => ?_ | refine Ev.sc (by omega) ?_ | refine Ev.scg (by omega) ?_) | rw [decide_eq_true (by omega)] | rw [decide_eq_false (by omega)])
  refine Ev.mkMap (P := Tryd.prog) hS fun mb H1 hS1 => ?_
  refine Ev.mpTrueI (S := []) (kt := 3) (et := 4) (Und.eq (P := Tryd.prog) (t := 60)) (Und.eq (P := Tryd.prog) (t := 3)) hS1 (.head _) (.head _) fun H2 hS2 => ?_
  refine Ev.mpTrueI (S := [0]) (kt := 3) (et := 4) (Und.eq (P := Tryd.prog) (t := 60)) (Und.eq (P := Tryd.prog) (t := 3)) hS2 (.head _) (.head _) fun H3 hS3 => ?_
  clear hS hS1 hS2
  rw [show insI [0] 1 = [0, 1] from rfl] at hS3
  repeat (first | (first | refine Ev.s ?_ | refine Ev.newC fun _ _ _ => ?_ | refine Ev.boxC fun _ _ _ => ?_ | refine Ev.stC fun _ _ => ?_ | refine Ev.sc (by omega) ?_ | refine Ev.scg (by omega) ?_) | rw [decide_eq_true (by omega)] | rw [decide_eq_false (by omega)])
  rename_i pb H4 hS4
  clear hS3
  have hS5 : St H0 B0 B (Ls ++ ((pb, _) :: (mb, _) :: L)) H4 := hS4.perm (permA [_, _] Ls L)
  refine Ev.b2 (hwrite_spec (t := 1) (r := 0) (U := [0, 1]) hD hO (by omega) (by decide) (by decide) (by decide) (.tail _ (.head _)) hS5) ?_
  clear hS4 hS5
  have hwo := pwrite_ok hO ((1 % 2 : Nat) : Int) 1 (textH 1 0 [0, 1])
  have hwc := pwrite_cache D ((1 % 2 : Nat) : Int) 1 (textH 1 0 [0, 1])
  change (hwrite D 1 0 [0, 1]).2.OK at hwo
  change (hwrite D 1 0 [0, 1]).2.cache.length ≤ _ at hwc
  rw [show ((0 : Nat) : Int) = 0 from rfl]
  generalize hwrite D 1 0 [0, 1] = w at hwo hwc ⊢
  obtain ⟨w1, w2⟩ := w
  dsimp only at hwo hwc ⊢
  rintro _ H5 ⟨rfl, Ls5, B5, hm5, hD5, hS5⟩
  dsimp only at hS5
  by_cases hw : w1 = 0
  case neg =>
    rw [if_pos hw]
    repeat (first | refine Ev.s ?_ | refine Ev.newC fun _ _ _ => ?_ | refine Ev.boxC fun _ _ _ => ?_ | refine Ev.stC fun _ _ => ?_ | refine Ev.sc (by omega) ?_ | refine Ev.scg (by omega) ?_)
    rw [decide_eq_true hw]
    repeat (first | refine Ev.s ?_ | refine Ev.newC fun _ _ _ => ?_ | refine Ev.boxC fun _ _ _ => ?_ | refine Ev.stC fun _ _ => ?_ | refine Ev.sc (by omega) ?_ | refine Ev.scg (by omega) ?_)
    exact Ev.ret (.inl ⟨hw, rfl, Ls5, B5, hm5, hD5, hS5.drop (List.Sublist.append_left (.cons _ (.cons _ (List.Sublist.refl _))) _)⟩)
  rw [if_neg (by simpa using hw)]
  repeat (first | refine Ev.s ?_ | refine Ev.newC fun _ _ _ => ?_ | refine Ev.boxC fun _ _ _ => ?_ | refine Ev.stC fun _ _ => ?_ | refine Ev.sc (by omega) ?_ | refine Ev.scg (by omega) ?_)
  rw [decide_eq_false (by simpa using hw)]
  repeat (first | refine Ev.s ?_ | refine Ev.newC fun _ _ _ => ?_ | refine Ev.boxC fun _ _ _ => ?_ | refine Ev.stC fun _ _ => ?_ | refine Ev.sc (by omega) ?_ | refine Ev.scg (by omega) ?_)
  refine Ev.b2 (Barrier_spec hD5 hwo (by omega) hS5) ?_
  generalize w2.barrier = b at ⊢
  obtain ⟨b1, b2⟩ := b
  dsimp only
  rintro _ H6 ⟨rfl, Ls6, B6, hm6, hD6, hS6⟩
  dsimp only at hS6
  by_cases hb : b1 = 0
  case neg =>
    repeat (first | refine Ev.s ?_ | refine Ev.newC fun _ _ _ => ?_ | refine Ev.boxC fun _ _ _ => ?_ | refine Ev.stC fun _ _ => ?_ | refine Ev.sc (by omega) ?_ | refine Ev.scg (by omega) ?_)
    rw [decide_eq_true hb]
    repeat (first | refine Ev.s ?_ | refine Ev.newC fun _ _ _ => ?_ | refine Ev.boxC fun _ _ _ => ?_ | refine Ev.stC fun _ _ => ?_ | refine Ev.sc (by omega) ?_ | refine Ev.scg (by omega) ?_)
    exact Ev.ret (.inl ⟨hb, rfl, Ls6, B6, ⟨hm5.mo.trans hm6.mo⟩, hD6, hS6.drop (List.Sublist.append_left (.cons _ (.cons _ (List.Sublist.refl _))) _)⟩)
  repeat (first | refine Ev.s ?_ | refine Ev.newC fun _ _ _ => ?_ | refine Ev.boxC fun _ _ _ => ?_ | refine Ev.stC fun _ _ => ?_ | refine Ev.sc (by omega) ?_ | refine Ev.scg (by omega) ?_)
  rw [decide_eq_false (by simpa using hb)]
  repeat (first | refine Ev.s ?_ | refine Ev.newC fun _ _ _ => ?_ | refine Ev.boxC fun _ _ _ => ?_ | refine Ev.stC fun _ _ => ?_ | refine Ev.sc (by omega) ?_ | refine Ev.scg (by omega) ?_)
  refine Ev.ret (.inr ⟨hb, ptr pb 0, rfl, _, B6, ⟨hm5.mo.trans hm6.mo⟩, ⟨pb, mb, _, [], Ls6, rfl, hD6, FRS.nil, rfl⟩, ?_⟩)
  exact (hS6.perm (permA Ls6 [_, _] L))
theorem PK.sub {p dv : Value} {G : Pgr} {D : Dsk} {Ls : List (Nat × Blk)} (h : PK p dv G D Ls) : ∃ Ld, DK dv D Ld ∧ ∀ x ∈ Ld, x ∈ Ls := by
  obtain ⟨pb, mb, fv, Lf, Ld, rfl, hD, hF, rfl⟩ := h
  exact ⟨Ld, hD, fun x hx => .tail _ (.tail _ (List.mem_append_right _ hx))⟩
theorem Pages_spec {p dv : Value} {G : Pgr} {D : Dsk} {Ls Lx : List (Nat × Blk)} (hP : PK p dv G D Ls) (hO : D.OK) (hS : St H0 B0 B Lx H) (hsub : ∀ x ∈ Ls, x ∈ Lx) :
    Ev (fun k _ => rn k 55 [p] H) (fun r => r = (i64 (D.n / 2), H)) := by
  obtain ⟨Ld, hD, hs⟩ := hP.sub
  obtain ⟨pb, mb, fv, Lf, Ld', rfl, hD', hF, rfl⟩ := hP
  obtain ⟨d, rfl⟩ := hD.ptr
  have hcell := hF.cell
  have hi : InL pb _ Lx := ⟨hsub _ (.head _)⟩
  refine Ev.fn (fun k => f55_eq k _ H) ?_
  repeat (first | refine Ev.s ?_ | refine Ev.newC fun _ _ _ => ?_ | refine Ev.boxC fun _ _ _ => ?_ | refine Ev.stC fun _ _ => ?_ | refine Ev.sc (by omega) ?_ | refine Ev.scg (by omega) ?_)
  refine Ev.b2 (pages_spec hD hO hS fun x hx => hsub _ (hs x hx)) ?_
  rintro v H1 h
  cases h
  exact Ev.ret rfl
theorem Alloc_loop {pb mb d : Nat} {fv : Value} {Lf Lr : List (Nat × Blk)} {tv rv : Value} {U F : List Int} {m : Nat} [IsCell tv] [IsCell rv] (hF : FR fv F Lf) (hl : F.length < 100000) (hm : m < 100000) : ∀ (q i : Nat), i + q = m → 
    (St H0 B0 B ((pb, ⟨[tv, rv, .map (some mb), ptr d 0, fv, .bool false], 65, .fix⟩) :: (mb, ⟨entI U, 60, .map⟩) :: (Lf ++ Lr)) H) → (∀ j < i, (!decide (((j : Nat) : Int) ∈ U) && !decide ((j : Int) ∈ F)) = false) →
    Ev (fun k K => f51_L0 k (ptr pb 0) (i64 m) (i64 i) K H) (fun o =>
      (∃ n : Nat, (List.range m).find? (fun (n : Nat) => !decide ((n : Int) ∈ U) && !decide ((n : Int) ∈ F)) = some n ∧ ∃ fv' Lf' H', o = (.ret, f51_X_L0 (i64 n) (.int .i64 0), H') ∧ FR fv' (F ++ [(n : Int)]) Lf' ∧
        St H0 B0 B ((pb, ⟨[tv, rv, .map (some mb), ptr d 0, fv', .bool false], 65, .fix⟩) :: (mb, ⟨entI U, 60, .map⟩) :: (Lf' ++ Lr)) H') ∨
      ((List.range m).find? (fun (n : Nat) => !decide ((n : Int) ∈ U) && !decide ((n : Int) ∈ F)) = none ∧ o = (.exit 0, f51_X_L0 unk unk, H))) := by
  intro q
  induction q with
  | zero =>
    intro i hi hS hno
    refine Ev.succ (fun k K => f51_L0_succ k _ _ _ K H) ?_
    repeat (first | refine Ev.s ?_ | refine Ev.newC fun _ _ _ => ?_ | refine Ev.boxC fun _ _ _ => ?_ | refine Ev.stC fun _ _ => ?_ | refine Ev.sc (by omega) ?_ | refine Ev.scg (by omega) ?_)
    rw [decide_eq_false (by omega)]
    repeat (first | refine Ev.s ?_ | refine Ev.newC fun _ _ _ => ?_ | refine Ev.boxC fun _ _ _ => ?_ | refine Ev.stC fun _ _ => ?_ | refine Ev.sc (by omega) ?_ | refine Ev.scg (by omega) ?_)
    refine Ev.ret (.inr ⟨?_, rfl⟩)
    rw [List.find?_eq_none]
    intro j hj
    rw [hno j (by have := List.mem_range.1 hj; omega)]
    decide
  | succ q ih =>
    intro i hi hS hno
    have hcell := hF.cell
    refine Ev.succ (fun k K => f51_L0_succ k _ _ _ K H) ?_
    repeat (first | refine Ev.s ?_ | refine Ev.newC fun _ _ _ => ?_ | refine Ev.boxC fun _ _ _ => ?_ | refine Ev.stC fun _ _ => ?_ | refine Ev.sc (by omega) ?_ | refine Ev.scg (by omega) ?_)
    rw [decide_eq_true (by omega)]
    repeat (first | refine Ev.s ?_ | refine Ev.newC fun _ _ _ => ?_ | refine Ev.boxC fun _ _ _ => ?_ | refine Ev.stC fun _ _ => ?_ | refine Ev.sc (by omega) ?_ | refine Ev.scg (by omega) ?_)
    refine Ev.prim (lkI (kt := 3) (et := 4) (Und.eq (P := Tryd.prog) (t := 60)) (Und.eq (P := Tryd.prog) (t := 3)) (by kernel_rfl) hS (.tail _ (.head _))) ?_
    have next : (!decide ((i : Int) ∈ U) && !decide ((i : Int) ∈ F)) = false → ∀ j < i + 1, (!decide (((j : Nat) : Int) ∈ U) && !decide ((j : Int) ∈ F)) = false := fun h j hj => by
      by_cases he : j = i
      · subst he; exact h
      · exact hno j (by omega)
    by_cases hu : (i : Int) ∈ U
    · rw [decide_eq_true hu]
      repeat (first | (first | refine Ev.s ?_ | refine Ev.newC fun _ _ _ => ?_ | refine Ev.boxC fun _ _ _ => ?_ | refine Ev.stC fun _ _ => ?_ | refine Ev.sc (by omega) ?_ | refine Ev.scg (by omega) ?_) | rw [decide_eq_true (by omega)] | rw [decide_eq_false (by omega)])
      exact ih (i + 1) (by omega) hS (next (by simp [hu]))
    rw [decide_eq_false hu]
    repeat (first | refine Ev.s ?_ | refine Ev.newC fun _ _ _ => ?_ | refine Ev.boxC fun _ _ _ => ?_ | refine Ev.stC fun _ _ => ?_ | refine Ev.sc (by omega) ?_ | refine Ev.scg (by omega) ?_)
    refine Ev.b2 (Contains_spec (i : Int) hF (by omega) hS fun x hx => .tail _ (.tail _ (List.mem_append_left _ hx))) ?_
    rintro v H1 h
    cases h
    by_cases hf : (i : Int) ∈ F
    · rw [decide_eq_true hf]
      repeat (first | (first | refine Ev.s ?_ | refine Ev.newC fun _ _ _ => ?_ | refine Ev.boxC fun _ _ _ => ?_ | refine Ev.stC fun _ _ => ?_ | refine Ev.sc (by omega) ?_ | refine Ev.scg (by omega) ?_) | rw [decide_eq_true (by omega)] | rw [decide_eq_false (by omega)])
      exact ih (i + 1) (by omega) hS (next (by simp [hf]))
    rw [decide_eq_false hf]
    repeat (first | refine Ev.s ?_ | refine Ev.newC fun _ _ _ => ?_ | refine Ev.boxC fun _ _ _ => ?_ | refine Ev.stC fun _ _ => ?_ | refine Ev.sc (by omega) ?_ | refine Ev.scg (by omega) ?_)
    have hS2 : St H0 B0 B (Lf ++ ((pb, _) :: (mb, _) :: Lr)) H := hS.perm (permA [_, _] Lf Lr)
    refine FRS.push eltI hF hS2 (by omega) fun fv' Lf' H' hF' hS' => ?_
    have hcell' := hF'.cell
    have hS3 : St H0 B0 B ((pb, _) :: (mb, _) :: (Lf' ++ Lr)) H' := hS'.perm (permA Lf' [_, _] Lr)
    clear hS hS2 hS'
    repeat (first | refine Ev.s ?_ | refine Ev.newC fun _ _ _ => ?_ | refine Ev.boxC fun _ _ _ => ?_ | refine Ev.stC fun _ _ => ?_ | refine Ev.sc (by omega) ?_ | refine Ev.scg (by omega) ?_)
    refine Ev.ret (.inl ⟨i, ?_, fv', Lf', _, rfl, hF', by assumption⟩)
    rw [List.find?_range_eq_some]
    exact ⟨by simp [hu, hf], List.mem_range.2 (by omega), fun j hj => by rw [hno j hj]; rfl⟩
theorem Alloc_spec {p dv : Value} {G : Pgr} {D : Dsk} {Ls : List (Nat × Blk)} (hP : PK p dv G D Ls) (hO : D.OK) (hl : G.fresh.length < 100000) (hS : St H0 B0 B (Ls ++ L) H) :
    Ev (fun k _ => rn k 51 [p] H) (PgP H0 B0 B L p dv (.tuple #[.int .i64 (G.alloc (D.n / 2)).1, .int .i64 (G.alloc (D.n / 2)).2.1]) (G.alloc (D.n / 2)).2.2 D) := by
  have hP0 := hP
  obtain ⟨pb, mb, fv, Lf, Ld, rfl, hD, hF, rfl⟩ := hP
  obtain ⟨d, rfl⟩ := hD.ptr
  have hcell := hF.cell
  obtain ⟨turn, root, U, F, dn⟩ := G
  dsimp only at hF hl hP0 hS
  refine Ev.fn (fun k => f51_eq k _ H) ?_
  simp only [List.cons_append] at hS
  unfold Pgr.alloc
  dsimp only
  have hn := hO.n2
  cases dn with
  | true =>
    repeat (first | refine Ev.s ?_ | refine Ev.newC fun _ _ _ => ?_ | refine Ev.boxC fun _ _ _ => ?_ | refine Ev.stC fun _ _ => ?_ | refine Ev.sc (by omega) ?_ | refine Ev.scg (by omega) ?_)
    exact Ev.ret ⟨rfl, _, B, ⟨Mo.refl B⟩, hP0, hS⟩
  | false =>
    rw [if_neg (by decide)]
    repeat (first | refine Ev.s ?_ | refine Ev.newC fun _ _ _ => ?_ | refine Ev.boxC fun _ _ _ => ?_ | refine Ev.stC fun _ _ => ?_ | refine Ev.sc (by omega) ?_ | refine Ev.scg (by omega) ?_)
    refine Ev.b2 (Pages_spec hP0 hO hS fun x hx => ?_) ?_
    · rcases List.mem_cons.1 hx with rfl | hx
      · exact .head _
      · rcases List.mem_cons.1 hx with rfl | hx
        · exact .tail _ (.head _)
        · exact .tail _ (.tail _ (List.mem_append_left _ hx))
    rintro v H1 h
    cases h
    have hS2 : St H0 B0 B ((pb, ⟨[i64 turn, .int .i64 root, .map (some mb), ptr d 0, fv, .bool false], 65, .fix⟩) :: (mb, ⟨entI U, 60, .map⟩) :: (Lf ++ (Ld ++ L))) H := by rw [List.append_assoc] at hS; exact hS
    refine Ev.bind (Ev.loop (Alloc_loop hF hl (by omega) (D.n / 2) 0 (by omega) hS2 (fun j hj => by omega))) ?_
    rintro _ (⟨n, hfd, fv', Lf', H', rfl, hF', hS'⟩ | ⟨hfd, rfl⟩)
    · refine Ev.eq (fun k _ => f51_A0_ret k _ _ H') ?_
      rw [hfd]
      refine Ev.ret ⟨rfl, _, B, ⟨Mo.refl B⟩, ⟨pb, mb, fv', Lf', Ld, rfl, hD, hF', rfl⟩, ?_⟩
      show St H0 B0 B ((pb, _) :: (mb, _) :: ((Lf' ++ Ld) ++ L)) H'
      rw [List.append_assoc]
      exact hS'
    · refine Ev.eq (fun k _ => f51_A0_x0 k _ _ H) ?_
      rw [hfd]
      exact Ev.ret ⟨rfl, _, B, ⟨Mo.refl B⟩, hP0, hS⟩
theorem Back_spec {p dv : Value} {G : Pgr} {D : Dsk} {Ls : List (Nat × Blk)} {many : Int} (hP : PK p dv G D Ls) (hl : G.fresh.length < 100000) (hS : St H0 B0 B (Ls ++ L) H) :
    Ev (fun k _ => rn k 41 [p, .int .i64 many] H) (PgP H0 B0 B L p dv (.tuple #[]) (G.back many) D) := by
  obtain ⟨pb, mb, fv, Lf, Ld, rfl, hD, hF, rfl⟩ := hP
  obtain ⟨d, rfl⟩ := hD.ptr
  have hcell := hF.cell
  simp only [List.cons_append] at hS
  refine Ev.fn (fun k => f41_eq k _ _ H) ?_
  repeat (first | refine Ev.s ?_ | refine Ev.newC fun _ _ _ => ?_ | refine Ev.boxC fun _ _ _ => ?_ | refine Ev.stC fun _ _ => ?_ | refine Ev.sc (by omega) ?_ | refine Ev.scg (by omega) ?_)
  refine Ev.prim (hF.len (Und.eq (P := Tryd.prog) (t := 63))) ?_
  refine Ev.prim (show fold1 minV [.int .i64 (if 0 > many then 0 else many), i64 G.fresh.length] = some (.int .i64 ((min many.toNat G.fresh.length : Nat) : Int)) from by
    rw [min_int]; congr 2; split <;> omega) ?_
  obtain ⟨fv', q1, q2⟩ := hF.back eltI (j := min many.toNat G.fresh.length) (Nat.min_le_right _ _)
  have hcell' := q2.cell
  refine Ev.prim q1 ?_
  repeat (first | refine Ev.s ?_ | refine Ev.newC fun _ _ _ => ?_ | refine Ev.boxC fun _ _ _ => ?_ | refine Ev.stC fun _ _ => ?_ | refine Ev.sc (by omega) ?_ | refine Ev.scg (by omega) ?_)
  have e : G.fresh.take (min many.toNat G.fresh.length) = G.fresh.take many.toNat := by
    rcases Nat.le_total many.toNat G.fresh.length with h | h
    · rw [Nat.min_eq_left h]
    · rw [Nat.min_eq_right h, List.take_length, List.take_of_length_le h]
  rw [e] at q2
  exact Ev.ret ⟨rfl, _, B, ⟨Mo.refl B⟩, ⟨pb, mb, fv', Lf, Ld, rfl, hD, q2, rfl⟩, by assumption⟩
theorem Root_spec {p dv : Value} {G : Pgr} {D : Dsk} {Ls Lx : List (Nat × Blk)} (hP : PK p dv G D Ls) (hS : St H0 B0 B Lx H) (hsub : ∀ x ∈ Ls, x ∈ Lx) :
    Ev (fun k _ => rn k 27 [p] H) (fun r => r = (.int .i64 G.root, H)) := by
  obtain ⟨pb, mb, fv, Lf, Ld', rfl, hD', hF, rfl⟩ := hP
  have hi : InL pb _ Lx := ⟨hsub _ (.head _)⟩
  refine Ev.fn (fun k => f27_eq k _ H) ?_
  repeat (first | refine Ev.s ?_ | refine Ev.newC fun _ _ _ => ?_ | refine Ev.boxC fun _ _ _ => ?_ | refine Ev.stC fun _ _ => ?_ | refine Ev.sc (by omega) ?_ | refine Ev.scg (by omega) ?_)
  exact Ev.ret rfl
/-- What was handed out, in a slice of its own. -/
theorem Fresh_spec {p dv : Value} {G : Pgr} {D : Dsk} {Ls : List (Nat × Blk)} (hP : PK p dv G D Ls) (hl : G.fresh.length < 100000) (hS : St H0 B0 B (Ls ++ L) H) :
    Ev (fun k _ => rn k 39 [p] H) (fun r => ∃ B', MoC B B' ∧ ScN B' r.1 G.fresh.length 1 (intV G.fresh) ∧ St H0 B0 B' (Ls ++ L) r.2) := by
  have hP0 := hP
  obtain ⟨pb, mb, fv, Lf, Ld, rfl, hD, hF, rfl⟩ := hP
  have hcell := hF.cell
  simp only [List.cons_append] at hS
  refine Ev.fn (fun k => f39_eq k _ H) ?_
  repeat (first | refine Ev.s ?_ | refine Ev.newC fun _ _ _ => ?_ | refine Ev.boxC fun _ _ _ => ?_ | refine Ev.stC fun _ _ => ?_ | refine Ev.sc (by omega) ?_ | refine Ev.scg (by omega) ?_)
  rw [show (fun k n : Nat => AM.b2 (rn k 49 [fv] H) fun v4 h4 => some (v4, h4)) = fun k n => rn k 49 [fv] H from funext fun k => funext fun _ => b2_id _]
  refine Ev.fn (fun k => f49_eq k _ H) ?_
  have hN := hF.now hS (fun x hx => .tail _ (.tail _ (List.mem_append_left _ (List.mem_append_left _ hx))))
  have app : ∀ (Lx : List (Nat × Blk)), (∀ x ∈ Lf, x ∈ Lx) → ∀ B' H' v, MoC B B' → St H0 B0 B' Lx H' → GAcc 3 1 H0 B0 B' Lx H' v 0 [] →
      Ev (fun k n => AM.b2 (AM.ap Tryd.prog 63 63 H' v fv) fun v3 h3 => some (v3, h3)) (fun r : Value × AH => ∃ B', MoC B B' ∧ ScN B' r.1 G.fresh.length 1 (intV G.fresh) ∧ St H0 B0 B' Lx r.2) := by
    intro Lx hsub B' H' v hm hS' hG
    have hN' := hF.now hS' hsub
    refine GAcc.more (t := 63) (u := 63) (Und.eq (P := Tryd.prog) (t := 63)) hG hN' (by simp [intV, isCell]) (by omega) fun v' B2 H2 hm2 hG2 => ?_
    obtain ⟨B3, hm3, hsc, hS3⟩ := hG2.freeze
    rw [Nat.zero_add, List.nil_append] at hsc
    exact Ev.ret ⟨B3, ⟨hm.mo.trans (hm2.mo.trans hm3.mo)⟩, hsc, hS3⟩
  have bs : ∀ (w : Value), (bin Tryd.prog .eql 63 w (.slice none 0 0) = some (.bool true) ∧ w = .slice none 0 0) ∨ bin Tryd.prog .eql 63 w (.slice none 0 0) = some (.bool false) ∨ (∀ b o n c, w ≠ sl b o n c) ∧ w ≠ .slice none 0 0 := by
    intro w
    by_cases h1 : w = .slice none 0 0
    · left; rw [h1]; exact ⟨by kernel_rfl, rfl⟩
    · by_cases h2 : ∃ b o n c, w = sl b o n c
      · obtain ⟨b, o, n, c, rfl⟩ := h2
        right; left
        unfold bin sl
        rw [if_neg (by simp [flat1])]
        dsimp only
        rw [Und.eq (P := Tryd.prog) (t := 63), Option.bind_some]
        rfl
      · exact .inr (.inr ⟨fun b o n c h => h2 ⟨b, o, n, c, h⟩, h1⟩)
  rcases bs fv with ⟨h1, rfl⟩ | h1 | ⟨h1, h2⟩
  · refine Ev.prim h1 ?_
    repeat (first | refine Ev.s ?_ | refine Ev.newC fun _ _ _ => ?_ | refine Ev.boxC fun _ _ _ => ?_ | refine Ev.stC fun _ _ => ?_ | refine Ev.sc (by omega) ?_ | refine Ev.scg (by omega) ?_)
    refine Ev.ret ⟨B, ⟨Mo.refl B⟩, ?_, hS⟩
    rcases hN with ⟨_, h2, h3⟩ | ⟨b, off, cap, h2, _⟩
    · exact .inl ⟨rfl, h2, h3⟩
    · cases h2
  · refine Ev.prim h1 ?_
    repeat (first | refine Ev.s ?_ | refine Ev.newC fun _ _ _ => ?_ | refine Ev.boxC fun _ _ _ => ?_ | refine Ev.stC fun _ _ => ?_ | refine Ev.sc (by omega) ?_ | refine Ev.scg (by omega) ?_)
    refine Ev.prim2 (v := sl H.length 0 0 0) (H := mkB H [] 3 .fix) (by kernel_rfl) ?_
    have hS2 := (hS.mkB' [] 3 .fix).drop1
    exact app _ (fun x hx => .tail _ (.tail _ (List.mem_append_left _ (List.mem_append_left _ hx)))) B _ _ ⟨Mo.refl B⟩ hS2 (.inl ⟨rfl, rfl, .inr ⟨_, _, rfl⟩, hS2⟩)
  · rcases hN with ⟨h3, _⟩ | ⟨b, off, cap, h3, _⟩
    · exact (h2 h3).elim
    · exact (h1 _ _ _ _ h3).elim
end
end Go.AM.C
set_option linter.unusedVariables false
set_option linter.unusedSimpArgs false
set_option maxRecDepth 100000
namespace Go.AM.C
open Go Go.AM Go.Proofs
attribute [local irreducible] run bin un ld st box newV mkS fldA fld ixA ix slc slc3 build buildS cv cvS ap cpy lenV gOp pickV b2 aIf aChk evalK resume iterD Option.bind

section
variable {B B0 H0 H : AH} {L : List (Nat × Blk)}
theorem st_toD {x y : Nat × Blk} {Lf Ld : List (Nat × Blk)} (h : St H0 B0 B (x :: y :: (Lf ++ Ld ++ L)) H) : St H0 B0 B (Ld ++ (x :: y :: (Lf ++ L))) H := h.perm (by
  have := (permA Ld (x :: y :: Lf) L).symm
  simpa [List.append_assoc] using this)
theorem st_toP {x y : Nat × Blk} {Lf Ld : List (Nat × Blk)} (h : St H0 B0 B (Ld ++ (x :: y :: (Lf ++ L))) H) : St H0 B0 B (x :: y :: (Lf ++ Ld ++ L)) H := h.perm (by
  have := permA Ld (x :: y :: Lf) L
  simpa [List.append_assoc] using this)
theorem Write_specP {p dv : Value} {G : Pgr} {D : Dsk} {Ls : List (Nat × Blk)} {n kind : Int} {t : List UInt8} (hP : PK p dv G D Ls) (hO : D.OK) (hc : D.cache.length + 1 < 1000000000000) (hl : G.fresh.length < 100000) (ht : t.length < 9223372036854775808) (hk : -9223372036854775808 ≤ kind ∧ kind < 9223372036854775808) (hS : St H0 B0 B (Ls ++ L) H) :
    Ev (fun k _ => rn k 52 [p, .int .i64 n, .int .i64 kind, str t] H) (PgP H0 B0 B L p dv (.int .i64 (G.write D n kind t).1) (G.write D n kind t).2.1 (G.write D n kind t).2.2) := by
  have hP0 := hP
  obtain ⟨pb, mb, fv, Lf, Ld, rfl, hD, hF, rfl⟩ := hP
  obtain ⟨d, rfl⟩ := hD.ptr
  have hcell := hF.cell
  obtain ⟨turn, root, U, F, dn⟩ := G
  dsimp only at hF hl hP0 hS
  simp only [List.cons_append] at hS
  refine Ev.fn (fun k => f52_eq k _ _ _ _ H) ?_
  unfold Pgr.write
  dsimp only
  cases dn with
  | true =>
    rw [if_pos rfl]
    repeat (first | refine Ev.s ?_ | refine Ev.newC fun _ _ _ => ?_ | refine Ev.boxC fun _ _ _ => ?_ | refine Ev.stC fun _ _ => ?_ | refine Ev.sc (by omega) ?_ | refine Ev.scg (by omega) ?_)
    exact Ev.ret ⟨rfl, _, B, ⟨Mo.refl B⟩, hP0, hS⟩
  | false =>
    rw [if_neg (by decide)]
    repeat (first | refine Ev.s ?_ | refine Ev.newC fun _ _ _ => ?_ | refine Ev.boxC fun _ _ _ => ?_ | refine Ev.stC fun _ _ => ?_ | refine Ev.sc (by omega) ?_ | refine Ev.scg (by omega) ?_)
    refine Ev.b2 (Contains_spec n hF (by omega) hS fun x hx => .tail _ (.tail _ (List.mem_append_left _ (List.mem_append_left _ hx)))) ?_
    rintro v H1 h
    cases h
    by_cases hf : n ∈ F
    case neg =>
      rw [decide_eq_false hf, if_pos hf]
      repeat (first | refine Ev.s ?_ | refine Ev.newC fun _ _ _ => ?_ | refine Ev.boxC fun _ _ _ => ?_ | refine Ev.stC fun _ _ => ?_ | refine Ev.sc (by omega) ?_ | refine Ev.scg (by omega) ?_)
      exact Ev.ret ⟨rfl, _, B, ⟨Mo.refl B⟩, hP0, hS⟩
    rw [decide_eq_true hf, if_neg (by simpa using hf)]
    repeat (first | refine Ev.s ?_ | refine Ev.newC fun _ _ _ => ?_ | refine Ev.boxC fun _ _ _ => ?_ | refine Ev.stC fun _ _ => ?_ | refine Ev.sc (by omega) ?_ | refine Ev.scg (by omega) ?_)
    refine Ev.b2 (pWrite_spec (n := n) (kind := kind) hD hO hc ht hk (st_toD hS)) ?_
    generalize D.pwrite n kind t = w
    obtain ⟨w1, w2⟩ := w
    dsimp only
    rintro _ H2 ⟨rfl, Ld2, B2, hm2, hD2, hS2⟩
    dsimp only at hS2
    repeat (first | refine Ev.s ?_ | refine Ev.newC fun _ _ _ => ?_ | refine Ev.boxC fun _ _ _ => ?_ | refine Ev.stC fun _ _ => ?_ | refine Ev.sc (by omega) ?_ | refine Ev.scg (by omega) ?_)
    refine Ev.b2 (told_spec (.head _) (.head _) (st_toP hS2)) ?_
    rintro _ H3 ⟨rfl, hS3⟩
    exact Ev.ret ⟨rfl, _, B2, hm2, ⟨pb, mb, fv, Lf, Ld2, rfl, hD2, hF, rfl⟩, hS3⟩
theorem Read_specP {p dv : Value} {G : Pgr} {D : Dsk} {Ls : List (Nat × Blk)} {n : Int} (hP : PK p dv G D Ls) (hO : D.OK) (hc : D.cache.length < 1000000000000) (hS : St H0 B0 B (Ls ++ L) H) :
    Ev (fun k _ => rn k 54 [p, .int .i64 n] H) (PgP H0 B0 B L p dv (OpenV (G.read D n).1) (G.read D n).2 D) := by
  have hP0 := hP
  obtain ⟨pb, mb, fv, Lf, Ld, rfl, hD, hF, rfl⟩ := hP
  obtain ⟨d, rfl⟩ := hD.ptr
  have hcell := hF.cell
  obtain ⟨turn, root, U, F, dn⟩ := G
  dsimp only at hF hP0 hS
  simp only [List.cons_append] at hS
  refine Ev.fn (fun k => f54_eq k _ _ H) ?_
  have hn := hO.n2
  unfold Pgr.read
  dsimp only
  cases dn with
  | true =>
    rw [if_pos rfl]
    repeat (first | refine Ev.s ?_ | refine Ev.newC fun _ _ _ => ?_ | refine Ev.boxC fun _ _ _ => ?_ | refine Ev.stC fun _ _ => ?_ | refine Ev.sc (by omega) ?_ | refine Ev.scg (by omega) ?_)
    exact Ev.ret ⟨rfl, _, B, ⟨Mo.refl B⟩, hP0, hS⟩
  | false =>
    rw [if_neg (by decide)]
    repeat (first | refine Ev.s ?_ | refine Ev.newC fun _ _ _ => ?_ | refine Ev.boxC fun _ _ _ => ?_ | refine Ev.stC fun _ _ => ?_ | refine Ev.sc (by omega) ?_ | refine Ev.scg (by omega) ?_)
    by_cases h0 : n < 0
    · rw [decide_eq_true h0, if_pos (.inl h0)]
      repeat (first | refine Ev.s ?_ | refine Ev.newC fun _ _ _ => ?_ | refine Ev.boxC fun _ _ _ => ?_ | refine Ev.stC fun _ _ => ?_ | refine Ev.sc (by omega) ?_ | refine Ev.scg (by omega) ?_)
      exact Ev.ret ⟨rfl, _, B, ⟨Mo.refl B⟩, hP0, hS⟩
    rw [decide_eq_false h0]
    repeat (first | refine Ev.s ?_ | refine Ev.newC fun _ _ _ => ?_ | refine Ev.boxC fun _ _ _ => ?_ | refine Ev.stC fun _ _ => ?_ | refine Ev.sc (by omega) ?_ | refine Ev.scg (by omega) ?_)
    refine Ev.b2 (Pages_spec hP0 hO hS fun x hx => ?_) ?_
    · rcases List.mem_cons.1 hx with rfl | hx
      · exact .head _
      · rcases List.mem_cons.1 hx with rfl | hx
        · exact .tail _ (.head _)
        · exact .tail _ (.tail _ (List.mem_append_left _ hx))
    rintro v H1 h
    cases h
    repeat (first | refine Ev.s ?_ | refine Ev.newC fun _ _ _ => ?_ | refine Ev.boxC fun _ _ _ => ?_ | refine Ev.stC fun _ _ => ?_ | refine Ev.sc (by omega) ?_ | refine Ev.scg (by omega) ?_)
    by_cases h1 : ((D.n / 2 : Nat) : Int) ≤ n
    · rw [decide_eq_true h1, if_pos (.inr h1)]
      repeat (first | refine Ev.s ?_ | refine Ev.newC fun _ _ _ => ?_ | refine Ev.boxC fun _ _ _ => ?_ | refine Ev.stC fun _ _ => ?_ | refine Ev.sc (by omega) ?_ | refine Ev.scg (by omega) ?_)
      exact Ev.ret ⟨rfl, _, B, ⟨Mo.refl B⟩, hP0, hS⟩
    rw [decide_eq_false h1, if_neg (by omega)]
    repeat (first | refine Ev.s ?_ | refine Ev.newC fun _ _ _ => ?_ | refine Ev.boxC fun _ _ _ => ?_ | refine Ev.stC fun _ _ => ?_ | refine Ev.sc (by omega) ?_ | refine Ev.scg (by omega) ?_)
    refine Ev.b2 (pRead_spec (n := n) hD hO hc (st_toD hS)) ?_
    generalize D.pread n = w
    obtain ⟨w1, w2, w3⟩ := w
    dsimp only
    rintro _ H2 ⟨rfl, B2, hm2, hS2⟩
    try dsimp only at hS2
    unfold OpenV
    dsimp only
    repeat (first | refine Ev.s ?_ | refine Ev.newC fun _ _ _ => ?_ | refine Ev.boxC fun _ _ _ => ?_ | refine Ev.stC fun _ _ => ?_ | refine Ev.sc (by omega) ?_ | refine Ev.scg (by omega) ?_)
    refine Ev.b2 (told_spec (.head _) (.head _) (st_toP hS2)) ?_
    rintro _ H3 ⟨rfl, hS3⟩
    repeat (first | refine Ev.s ?_ | refine Ev.newC fun _ _ _ => ?_ | refine Ev.boxC fun _ _ _ => ?_ | refine Ev.stC fun _ _ => ?_ | refine Ev.sc (by omega) ?_ | refine Ev.scg (by omega) ?_)
    exact Ev.ret ⟨rfl, _, B2, hm2, ⟨pb, mb, fv, Lf, Ld, rfl, hD, hF, rfl⟩, hS3⟩
end
end Go.AM.C
set_option linter.unusedVariables false
set_option linter.unusedSimpArgs false
set_option maxRecDepth 100000
namespace Go.AM.C
open Go Go.AM Go.Proofs
attribute [local irreducible] run bin un ld st box newV mkS fldA fld ixA ix slc slc3 build buildS cv cvS ap cpy lenV gOp pickV b2 aIf aChk evalK resume iterD Option.bind

section
variable {B B0 H0 H : AH} {L : List (Nat × Blk)}
theorem Need_spec {n : Nat} (h : n < 4611686018427387904) : Ev (fun k _ => rn k 50 [i64 n] H) (fun r => r = (i64 (need n), H)) := by
  refine Ev.fn (fun k => f50_eq k _ H) ?_
  refine Ev.prim (show fold1 maxV [i64 n, .int .i64 0] = some (i64 n) from by rw [max_int]; congr 2; omega) ?_
  refine Ev.prim (show fold1 minV [i64 n, .int .i64 1048576] = some (i64 (min n 1048576)) from by rw [min_int]; congr 2; omega) ?_
  unfold need
  generalize hz : min n 1048576 = z
  repeat (first | refine Ev.s ?_ | refine Ev.newC fun _ _ _ => ?_ | refine Ev.boxC fun _ _ _ => ?_ | refine Ev.stC fun _ _ => ?_ | refine Ev.sc (by omega) ?_ | refine Ev.scg (by omega) ?_)
  by_cases h0 : z = 0
  · rw [if_pos h0, decide_eq_true h0]
    repeat (first | refine Ev.s ?_ | refine Ev.newC fun _ _ _ => ?_ | refine Ev.boxC fun _ _ _ => ?_ | refine Ev.stC fun _ _ => ?_ | refine Ev.sc (by omega) ?_ | refine Ev.scg (by omega) ?_)
    exact Ev.ret rfl
  · rw [if_neg h0, decide_eq_false h0]
    repeat (first | (first | refine Ev.s ?_ | refine Ev.newC fun _ _ _ => ?_ | refine Ev.boxC fun _ _ _ => ?_ | refine Ev.stC fun _ _ => ?_ | refine Ev.sc (by omega) ?_ | refine Ev.scg (by omega) ?_) | rw [decide_eq_true (by omega)] | rw [decide_eq_false (by omega)])
    exact Ev.ret (by rw [show z + 118 - 1 = z + 117 by omega])
theorem lay_alloc {p dv : Value} {D : Dsk} {m j k : Nat} {s1 : Value} (hU : D.Up (2 * m)) (hm2 : m ≤ 512) (hk : k < 100000) (hjm : j + 2 ≤ m) : ∀ (q i : Nat) (B H : AH) (Ls Lv : List (Nat × Blk)) (v : Value), i + q = k → j + i + 2 ≤ m → PK p dv ⟨1, 0, [0, 1], frs (j + i), false⟩ D Ls → FR v (pagesL j i) Lv → St H0 B0 B (Lv ++ (Ls ++ L)) H →
    Ev (fun K K2 => f40_L0 K p s1 v (i64 k) (i64 i) K2 H) (fun o =>
      (j + k + 2 ≤ m ∧ ∃ B' H' Ls' Lv' v', o = (.exit 0, f40_X_L0 p s1 unk unk v', H') ∧ MoC B B' ∧ PK p dv ⟨1, 0, [0, 1], frs (j + k), false⟩ D Ls' ∧ FR v' (pagesL j k) Lv' ∧ St H0 B0 B' (Lv' ++ (Ls' ++ L)) H') ∨
      (m < j + k + 2 ∧ ∃ B' H' Ls' w, o = (.ret, f40_X_L0 p s1 (.slice none 0 0) (.int .i64 6) w, H') ∧ MoC B B' ∧ PK p dv ⟨1, 0, [0, 1], frs (m - 2), false⟩ D Ls' ∧ St H0 B0 B' (Ls' ++ L) H')) := by
  have hdn : D.n / 2 = m := by have := hU.n; omega
  intro q
  induction q with
  | zero =>
    intro i B H Ls Lv v hi hj hP hF hS
    refine Ev.succ (fun K K2 => f40_L0_succ K _ _ _ _ _ K2 H) ?_
    have : i = k := by omega
    subst this
    repeat (first | (first | refine Ev.s ?_ | refine Ev.newC fun _ _ _ => ?_ | refine Ev.boxC fun _ _ _ => ?_ | refine Ev.stC fun _ _ => ?_ | refine Ev.sc (by omega) ?_ | refine Ev.scg (by omega) ?_) | rw [decide_eq_true (by omega)] | rw [decide_eq_false (by omega)])
    exact Ev.ret (.inl ⟨hj, B, H, Ls, Lv, v, rfl, ⟨Mo.refl B⟩, hP, hF, hS⟩)
  | succ q ih =>
    intro i B H Ls Lv v hi hj hP hF hS
    refine Ev.succ (fun K K2 => f40_L0_succ K _ _ _ _ _ K2 H) ?_
    repeat (first | (first | refine Ev.s ?_ | refine Ev.newC fun _ _ _ => ?_ | refine Ev.boxC fun _ _ _ => ?_ | refine Ev.stC fun _ _ => ?_ | refine Ev.sc (by omega) ?_ | refine Ev.scg (by omega) ?_) | rw [decide_eq_true (by omega)] | rw [decide_eq_false (by omega)])
    have hS2 : St H0 B0 B (Ls ++ (Lv ++ L)) H := hS.perm (permA Lv Ls L)
    refine Ev.b2 (Alloc_spec hP hU.ok (by rw [frs_len]; omega) hS2) ?_
    clear hS hS2
    rw [hdn]
    by_cases hr : j + i + 2 < m
    · rw [alloc_frs (j := j + i) rfl rfl rfl hr]
      rintro _ H1 ⟨rfl, Ls1, B1, hm1, hP1, hS1⟩
      dsimp only at hS1 hP1
      repeat (first | refine Ev.s ?_ | refine Ev.newC fun _ _ _ => ?_ | refine Ev.boxC fun _ _ _ => ?_ | refine Ev.stC fun _ _ => ?_ | refine Ev.sc (by omega) ?_ | refine Ev.scg (by omega) ?_)
      have hS3 : St H0 B0 B1 (Lv ++ (Ls1 ++ L)) H1 := hS1.perm (permA Ls1 Lv L)
      refine FRS.push (x := ((j + i + 2 : Nat) : Int)) eltI hF hS3 (by rw [pagesL_len]; omega) fun v' Lv' H' hF' hS' => ?_
      have e : pagesL j i ++ [((j + i + 2 : Nat) : Int)] = pagesL j (i + 1) := by rw [pagesL_succ, show j + i + 2 = j + 2 + i by omega]
      rw [e] at hF'
      clear hS1 hS3
      repeat (first | (first | refine Ev.s ?_ | refine Ev.newC fun _ _ _ => ?_ | refine Ev.boxC fun _ _ _ => ?_ | refine Ev.stC fun _ _ => ?_ | refine Ev.sc (by omega) ?_ | refine Ev.scg (by omega) ?_) | rw [decide_eq_true (by omega)] | rw [decide_eq_false (by omega)])
      refine (ih (i + 1) B1 H' Ls1 Lv' v' (by omega) (by omega) hP1 hF' hS').mono ?_
      rintro o (⟨h1, B', H2, Ls', Lv2, v2, rfl, hm', h2, h3, h4⟩ | ⟨h1, B', H2, Ls', w, rfl, hm', h2, h3⟩)
      · exact .inl ⟨h1, B', H2, Ls', Lv2, v2, rfl, ⟨hm1.mo.trans hm'.mo⟩, h2, h3, h4⟩
      · exact .inr ⟨h1, B', H2, Ls', w, rfl, ⟨hm1.mo.trans hm'.mo⟩, h2, h3⟩
    · rw [alloc_full (j := j + i) rfl rfl rfl (by omega)]
      rintro _ H1 ⟨rfl, Ls1, B1, hm1, hP1, hS1⟩
      dsimp only at hS1 hP1
      repeat (first | refine Ev.s ?_ | refine Ev.newC fun _ _ _ => ?_ | refine Ev.boxC fun _ _ _ => ?_ | refine Ev.stC fun _ _ => ?_ | refine Ev.sc (by omega) ?_ | refine Ev.scg (by omega) ?_)
      dsimp only
      rw [show decide ((6 : Int) ≠ 0) = true from rfl]
      repeat (first | refine Ev.s ?_ | refine Ev.newC fun _ _ _ => ?_ | refine Ev.boxC fun _ _ _ => ?_ | refine Ev.stC fun _ _ => ?_ | refine Ev.sc (by omega) ?_ | refine Ev.scg (by omega) ?_)
      rw [show j + i = m - 2 by omega] at hP1
      exact Ev.ret (.inr ⟨by omega, B1, H1, Ls1, v, rfl, hm1, hP1, hS1.drop (List.Sublist.append_left (List.sublist_append_right _ _) _)⟩)
theorem u8s (a b : Nat) : [u8 (a % 256), u8 (b % 256)] = byts [UInt8.ofNat a, UInt8.ofNat b] := by
  simp only [byts, List.map_cons, List.map_nil]
  rfl
theorem lay_write {p dv : Value} {m j k : Nat} {v : Value} {s : List UInt8} (hm2 : m ≤ 512) (hjm : j + k + 2 ≤ m) (hs : s.length ≤ 60000) : ∀ (q i : Nat) (B H : AH) (Ls Lv : List (Nat × Blk)) (D : Dsk), i + q = k → D.Up (2 * m) → D.cache.length < 100000 + 2 * i → PK p dv ⟨1, 0, [0, 1], frs (j + k), false⟩ D Ls → FR v (pagesL j k) Lv → St H0 B0 B (Lv ++ (Ls ++ L)) H →
    Ev (fun K K2 => f40_L1 K p (str (s.drop (118 * i))) v v (i64 k) (i64 i) K2 H) (fun o => ∃ B' H' Ls' D', o = (.exit 2, f40_X_L1 unk unk v, H') ∧ MoC B B' ∧ D'.Up (2 * m) ∧ D'.cache.length = D.cache.length + 2 * q ∧ PK p dv ⟨1, 0, [0, 1], frs (j + k), false⟩ D' Ls' ∧
      (∀ n, D'.pg n = if j + 2 + i ≤ n ∧ n < j + 2 + k then sealL 2 (bpage s j k (n - (j + 2))) else D.pg n) ∧ St H0 B0 B' (Lv ++ (Ls' ++ L)) H') := by
  intro q
  induction q with
  | zero =>
    intro i B H Ls Lv D hi hU hc hP hF hS
    refine Ev.succ (fun K K2 => f40_L1_succ K _ _ _ _ _ _ K2 H) ?_
    have : i = k := by omega
    subst this
    repeat (first | (first | refine Ev.s ?_ | refine Ev.newC fun _ _ _ => ?_ | refine Ev.boxC fun _ _ _ => ?_ | refine Ev.stC fun _ _ => ?_ | refine Ev.sc (by omega) ?_ | refine Ev.scg (by omega) ?_) | rw [decide_eq_true (by omega)] | rw [decide_eq_false (by omega)])
    exact Ev.ret ⟨B, H, Ls, D, rfl, ⟨Mo.refl B⟩, hU, rfl, hP, (fun n => by rw [if_neg (by omega)]), hS⟩
  | succ q ih =>
    intro i B H Ls Lv D hi hU hc hP hF hS
    refine Ev.succ (fun K K2 => f40_L1_succ K _ _ _ _ _ _ K2 H) ?_
    repeat (first | (first | refine Ev.s ?_ | refine Ev.newC fun _ _ _ => ?_ | refine Ev.boxC fun _ _ _ => ?_ | refine Ev.stC fun _ _ => ?_ | refine Ev.sc (by omega) ?_ | refine Ev.scg (by omega) ?_) | rw [decide_eq_true (by omega)] | rw [decide_eq_false (by omega)])
    have hN := hF.now hS fun x hx => List.mem_append_left _ hx
    rw [pagesL_len] at hN
    have hx : ∀ a, a < k → (intV (pagesL j k))[a]? = some (.int .i64 ((j + 2 + a : Nat) : Int)) := fun a ha => by unfold intV; rw [List.getElem?_map, pagesL_at ha]; rfl
    refine Ev.ixN (t := 63) hN i rfl (by omega) (hx i (by omega)) fun pp hp => ?_
    refine Ev.prim (hp.eq H (Mo.refl H)) ?_
    have hlv := hF.len (Und.eq (P := Tryd.prog) (t := 63))
    rw [pagesL_len] at hlv
    refine Ev.prim hlv ?_
    repeat (first | (first | refine Ev.s ?_ | refine Ev.newC fun _ _ _ => ?_ | refine Ev.boxC fun _ _ _ => ?_ | refine Ev.stC fun _ _ => ?_ | refine Ev.sc (by omega) ?_ | refine Ev.scg (by omega) ?_) | rw [decide_eq_true (by omega)] | rw [decide_eq_false (by omega)])
    have hlen : (s.drop (118 * i)).length < 9223372036854775808 := by rw [List.length_drop]; omega
    -- what is behind the next page's number
    have go : ∀ nx : Nat, nx = nextB j k i → Ev (fun K K2 => f40_J0 K K2 p (str (s.drop (118 * i))) v (i64 (j + 2 + i)) (i64 nx) v (i64 k) (i64 i) H) (fun o => ∃ B' H' Ls' D', o = (.exit 2, f40_X_L1 unk unk v, H') ∧ MoC B B' ∧ D'.Up (2 * m) ∧ D'.cache.length = D.cache.length + 2 * (q + 1) ∧ PK p dv ⟨1, 0, [0, 1], frs (j + k), false⟩ D' Ls' ∧
      (∀ n, D'.pg n = if j + 2 + i ≤ n ∧ n < j + 2 + k then sealL 2 (bpage s j k (n - (j + 2))) else D.pg n) ∧ St H0 B0 B' (Lv ++ (Ls' ++ L)) H') := by
      intro nx hnx
      refine Ev.eq (fun K K2 => f40_J0_eq K K2 _ _ _ _ _ _ _ _ H) ?_
      repeat (first | refine Ev.s ?_ | refine Ev.newC fun _ _ _ => ?_ | refine Ev.boxC fun _ _ _ => ?_ | refine Ev.stC fun _ _ => ?_ | refine Ev.sc (by omega) ?_ | refine Ev.scg (by omega) ?_)
      rw [show (if (118 : Int) < ((s.drop (118 * i)).length : Int) then (118 : Int) else ((s.drop (118 * i)).length : Int)) = ((min (s.drop (118 * i)).length 118 : Nat) : Int) by split <;> omega]
      refine Ev.prim (shrL (by decide)) ?_
      refine Ev.prim (toU8 (Und.eq (P := Tryd.prog) (t := 3)) (Und.eq (P := Tryd.prog) (t := 5))) ?_
      refine Ev.prim (toU8 (Und.eq (P := Tryd.prog) (t := 3)) (Und.eq (P := Tryd.prog) (t := 5))) ?_
      refine Ev.bsC (by decide) fun bb H1 hS1 => ?_
      rw [show nx / 2 ^ 8 = nx / 256 from rfl, u8s (nx / 256) nx] at hS1
      refine Ev.prim (cvS_part (d := 9) (bs := hdr nx) hS1 (.head _) (Nat.le_refl _) (by show 0 + 2 ≤ 2; decide)) ?_
      rw [show ((hdr nx).drop 0).take 2 = hdr nx from rfl]
      refine Ev.prim (slc_strT (l := s.drop (118 * i)) (i := min (s.drop (118 * i)).length 118) (Nat.min_le_left _ _)) ?_
      rw [take_piece]
      refine Ev.prim (add_str (a := hdr nx) (b := pieceT s i) (by unfold pieceT hdr; simp; omega)) ?_
      have eb : hdr nx ++ pieceT s i = bpage s j k i := by rw [hnx]; rfl
      rw [eb]
      obtain ⟨D2, e2, u2, c2, pg2⟩ := hU.gwrite (G := ⟨1, 0, [0, 1], frs (j + k), false⟩) (n := j + 2 + i) (k := 2) (t := bpage s j k i) rfl (by omega) (frs_mem.2 (by omega)) hm2 (by decide) (by decide) (bpage_len s j k i)
      have hS2 : St H0 B0 B (Ls ++ (Lv ++ L)) H1 := hS1.drop1.perm (permA Lv Ls L)
      have hbl := bpage_len s j k i
      refine Ev.b2 (Write_specP (n := ((j + 2 + i : Nat) : Int)) (kind := ((2 : Nat) : Int)) (t := bpage s j k i) hP hU.ok (by omega) (by show (frs (j + k)).length < 100000; rw [frs_len]; omega) (by omega) (by decide) hS2) ?_
      rw [e2]
      clear hS1 hS2
      rintro _ H2 ⟨rfl, Ls2, B2, hm2', hP2, hS2⟩
      dsimp only at hS2 hP2
      repeat (first | (first | refine Ev.s ?_ | refine Ev.newC fun _ _ _ => ?_ | refine Ev.boxC fun _ _ _ => ?_ | refine Ev.stC fun _ _ => ?_ | refine Ev.sc (by omega) ?_ | refine Ev.scg (by omega) ?_) | rw [decide_eq_true (by omega)] | rw [decide_eq_false (by omega)])
      refine Ev.prim (slc_str (l := s.drop (118 * i)) (min (s.drop (118 * i)).length 118) rfl (Nat.min_le_left _ _)) ?_
      rw [drop_piece]
      repeat (first | (first | refine Ev.s ?_ | refine Ev.newC fun _ _ _ => ?_ | refine Ev.boxC fun _ _ _ => ?_ | refine Ev.stC fun _ _ => ?_ | refine Ev.sc (by omega) ?_ | refine Ev.scg (by omega) ?_) | rw [decide_eq_true (by omega)] | rw [decide_eq_false (by omega)])
      have hS3 : St H0 B0 B2 (Lv ++ (Ls2 ++ L)) H2 := hS2.perm (permA Ls2 Lv L)
      refine (ih (i + 1) B2 H2 Ls2 Lv D2 (by omega) u2 (by omega) hP2 hF hS3).mono ?_
      rintro o ⟨B', H', Ls', D', rfl, hm', u', c', hP', hpg, hS'⟩
      refine ⟨B', H', Ls', D', rfl, ⟨hm2'.mo.trans hm'.mo⟩, u', by omega, hP', fun n => ?_, hS'⟩
      rw [hpg n, pg2 n]
      by_cases h1 : n = j + 2 + i
      · rw [if_neg (by omega), if_pos h1, if_pos (by omega), h1, show j + 2 + i - (j + 2) = i by omega]
      · by_cases h2 : j + 2 + (i + 1) ≤ n ∧ n < j + 2 + k
        · rw [if_pos h2, if_pos (by omega)]
        · rw [if_neg h2, if_neg h1, if_neg (by omega)]
    by_cases hlast : i + 1 < k
    · rw [decide_eq_true (by omega)]
      repeat (first | (first | refine Ev.s ?_ | refine Ev.newC fun _ _ _ => ?_ | refine Ev.boxC fun _ _ _ => ?_ | refine Ev.stC fun _ _ => ?_ | refine Ev.sc (by omega) ?_ | refine Ev.scg (by omega) ?_) | rw [decide_eq_true (by omega)] | rw [decide_eq_false (by omega)])
      refine Ev.ixN (t := 63) hN (i + 1) rfl (by omega) (hx (i + 1) (by omega)) fun pp2 hp2 => ?_
      refine Ev.prim (hp2.eq H (Mo.refl H)) ?_
      exact go (j + 2 + (i + 1)) (by unfold nextB; rw [if_pos hlast])
    · rw [decide_eq_false (by omega)]
      repeat (first | (first | refine Ev.s ?_ | refine Ev.newC fun _ _ _ => ?_ | refine Ev.boxC fun _ _ _ => ?_ | refine Ev.stC fun _ _ => ?_ | refine Ev.sc (by omega) ?_ | refine Ev.scg (by omega) ?_) | rw [decide_eq_true (by omega)] | rw [decide_eq_false (by omega)])
      exact go 0 (by unfold nextB; rw [if_neg hlast])
end
end Go.AM.C
set_option linter.unusedVariables false
set_option linter.unusedSimpArgs false
set_option maxRecDepth 100000
namespace Go.AM.C
open Go Go.AM Go.Proofs
attribute [local irreducible] run bin un ld st box newV mkS fldA fld ixA ix slc slc3 build buildS cv cvS ap cpy lenV gOp pickV b2 aIf aChk evalK resume iterD Option.bind

section
variable {B B0 H0 H : AH} {L : List (Nat × Blk)}
/-- Where a text stands, and what else does. -/
def Laid (s : List UInt8) (j k : Nat) (D D' : Dsk) : Prop := ∀ n, D'.pg n = if j + 2 ≤ n ∧ n < j + 2 + k then sealL 2 (bpage s j k (n - (j + 2))) else D.pg n
theorem blay_spec {p dv : Value} {D : Dsk} {m j : Nat} {s : List UInt8} {Ls : List (Nat × Blk)} (hU : D.Up (2 * m)) (hm2 : m ≤ 512) (hc : D.cache.length < 100000) (hjm : j + 2 ≤ m) (hs : s.length ≤ 60000) (hP : PK p dv ⟨1, 0, [0, 1], frs j, false⟩ D Ls) (hS : St H0 B0 B (Ls ++ L) H) :
    Ev (fun K _ => rn K 40 [p, str s] H) (fun r =>
      (j + need s.length + 2 ≤ m ∧ ∃ B' Ls' Lv' v' D', r.1 = .tuple #[v', .int .i64 0] ∧ MoC B B' ∧ D'.Up (2 * m) ∧ D'.cache.length = D.cache.length + 2 * need s.length ∧ Laid s j (need s.length) D D' ∧ PK p dv ⟨1, 0, [0, 1], frs (j + need s.length), false⟩ D' Ls' ∧ FR v' (pagesL j (need s.length)) Lv' ∧ St H0 B0 B' (Lv' ++ (Ls' ++ L)) r.2) ∨
      (m < j + need s.length + 2 ∧ ∃ B' Ls', r.1 = .tuple #[.slice none 0 0, .int .i64 6] ∧ MoC B B' ∧ PK p dv ⟨1, 0, [0, 1], frs (m - 2), false⟩ D Ls' ∧ St H0 B0 B' (Ls' ++ L) r.2)) := by
  refine Ev.fn (fun K => f40_eq K _ _ H) ?_
  have hneed : need s.length ≤ 10000 := by unfold need; split <;> omega
  repeat (first | refine Ev.s ?_ | refine Ev.newC fun _ _ _ => ?_ | refine Ev.boxC fun _ _ _ => ?_ | refine Ev.stC fun _ _ => ?_ | refine Ev.sc (by omega) ?_ | refine Ev.scg (by omega) ?_)
  refine Ev.b2 (Need_spec (n := s.length) (by omega)) ?_
  rintro v H1 h
  cases h
  generalize hk : need s.length = k at hneed ⊢
  refine Ev.bind (Ev.loop (lay_alloc (s1 := str s) hU hm2 (k := k) (by omega) hjm k 0 B H Ls [] (.slice none 0 0) (by omega) (by omega) hP FRS.nil hS)) ?_
  rintro _ (⟨h1, B1, H1, Ls1, Lv1, v1, rfl, hm1, hP1, hF1, hS1⟩ | ⟨h1, B1, H1, Ls1, w, rfl, hm1, hP1, hS1⟩)
  · refine Ev.eq (fun K _ => f40_A0_x0 K _ _ _ _ _ H1) ?_
    have hlv := hF1.len (Und.eq (P := Tryd.prog) (t := 63))
    rw [pagesL_len] at hlv
    refine Ev.prim hlv ?_
    refine Ev.bind (Ev.loop (lay_write (s := s) hm2 h1 hs k 0 B1 H1 Ls1 Lv1 D (by omega) hU (by omega) hP1 hF1 hS1)) ?_
    rintro _ ⟨B2, H2, Ls2, D2, rfl, hm2', u2, c2, hP2, hpg, hS2⟩
    refine Ev.eq (fun K _ => f40_A1_x2 K _ _ _ H2) ?_
    exact Ev.ret (.inl ⟨h1, B2, Ls2, Lv1, v1, D2, rfl, ⟨hm1.mo.trans hm2'.mo⟩, u2, c2, hpg, hP2, hF1, hS2⟩)
  · refine Ev.eq (fun K _ => f40_A0_ret K _ _ _ _ _ H1) ?_
    exact Ev.ret (.inr ⟨h1, B1, Ls1, rfl, hm1, hP1, hS1⟩)
theorem bWrite_spec {p dv : Value} {D : Dsk} {m j : Nat} {s : List UInt8} {Ls : List (Nat × Blk)} (hU : D.Up (2 * m)) (hm2 : m ≤ 512) (hc : D.cache.length < 100000) (hjm : j + 2 ≤ m) (hs : s.length ≤ 60000) (hP : PK p dv ⟨1, 0, [0, 1], frs j, false⟩ D Ls) (hS : St H0 B0 B (Ls ++ L) H) :
    Ev (fun K _ => rn K 24 [p, str s] H) (fun r =>
      (j + need s.length + 2 ≤ m ∧ ∃ B' Ls' D', r.1 = .tuple #[i64 (j + 2), .int .i64 0] ∧ MoC B B' ∧ D'.Up (2 * m) ∧ D'.cache.length = D.cache.length + 2 * need s.length ∧ Laid s j (need s.length) D D' ∧ PK p dv ⟨1, 0, [0, 1], frs (j + need s.length), false⟩ D' Ls' ∧ St H0 B0 B' (Ls' ++ L) r.2) ∨
      (m < j + need s.length + 2 ∧ ∃ B' Ls', r.1 = .tuple #[.int .i64 0, .int .i64 6] ∧ MoC B B' ∧ PK p dv ⟨1, 0, [0, 1], frs j, false⟩ D Ls' ∧ St H0 B0 B' (Ls' ++ L) r.2)) := by
  refine Ev.fn (fun K => f24_eq K _ _ H) ?_
  have hnp := need_pos s.length
  repeat (first | (first | refine Ev.s ?_ | refine Ev.newC fun _ _ _ => ?_ | refine Ev.boxC fun _ _ _ => ?_ | refine Ev.stC fun _ _ => ?_ | refine Ev.sc (by omega) ?_ | refine Ev.scg (by omega) ?_) | rw [decide_eq_true (by omega)] | rw [decide_eq_false (by omega)])
  refine Ev.b2 (Fresh_spec hP (by show (frs j).length < 100000; rw [frs_len]; omega) hS) ?_
  clear hS
  rintro v1 H1 ⟨B1, hm1, hsc1, hS1⟩
  dsimp only at hS1 hsc1
  rw [frs_len] at hsc1
  refine Ev.prim (hsc1.len (Und.eq (P := Tryd.prog) (t := 63))) ?_
  refine Ev.b2 (blay_spec hU hm2 hc hjm hs hP hS1) ?_
  clear hS1
  rintro _ H2 (⟨h1, B2, Ls2, Lv2, v2, D2, rfl, hm2', u2, c2, hL2, hP2, hF2, hS2⟩ | ⟨h1, B2, Ls2, rfl, hm2', hP2, hS2⟩)
  · dsimp only at hS2
    repeat (first | (first | refine Ev.s ?_ | refine Ev.newC fun _ _ _ => ?_ | refine Ev.boxC fun _ _ _ => ?_ | refine Ev.stC fun _ _ => ?_ | refine Ev.sc (by omega) ?_ | refine Ev.scg (by omega) ?_) | rw [decide_eq_true (by omega)] | rw [decide_eq_false (by omega)])
    have hN := hF2.now hS2 fun x hx => List.mem_append_left _ hx
    rw [pagesL_len] at hN
    refine Ev.ixN (t := 63) (x := i64 (j + 2)) hN 0 rfl (by omega) (by unfold intV; rw [List.getElem?_map, pagesL_at (by omega)]; rfl) fun pp hp => ?_
    refine Ev.prim (hp.eq H2 (Mo.refl H2)) ?_
    exact Ev.ret (.inl ⟨h1, B2, Ls2, D2, rfl, ⟨hm1.mo.trans hm2'.mo⟩, u2, c2, hL2, hP2, hS2.drop (List.sublist_append_right _ _)⟩)
  · dsimp only at hS2
    repeat (first | (first | refine Ev.s ?_ | refine Ev.newC fun _ _ _ => ?_ | refine Ev.boxC fun _ _ _ => ?_ | refine Ev.stC fun _ _ => ?_ | refine Ev.sc (by omega) ?_ | refine Ev.scg (by omega) ?_) | rw [decide_eq_true (by omega)] | rw [decide_eq_false (by omega)])
    refine Ev.b2 (Back_spec (many := (j : Int)) hP2 (by show (frs (m - 2)).length < 100000; rw [frs_len]; omega) hS2) ?_
    rw [show Pgr.back ⟨1, 0, [0, 1], frs (m - 2), false⟩ (j : Int) = ⟨1, 0, [0, 1], frs j, false⟩ by unfold Pgr.back; rw [Int.toNat_natCast, frs_take (by omega)]]
    rintro _ H3 ⟨rfl, Ls3, B3, hm3, hP3, hS3⟩
    dsimp only at hS3
    exact Ev.ret (.inr ⟨h1, B3, Ls3, rfl, ⟨hm1.mo.trans (hm2'.mo.trans hm3.mo)⟩, hP3, hS3⟩)
end
end Go.AM.C
set_option linter.unusedVariables false
set_option linter.unusedSimpArgs false
set_option maxRecDepth 100000
namespace Go.AM.C
open Go Go.AM Go.Proofs
attribute [local irreducible] run bin un ld st box newV mkS fldA fld ixA ix slc slc3 build buildS cv cvS ap cpy lenV gOp pickV b2 aIf aChk evalK resume iterD Option.bind

section
variable {B B0 H0 H : AH} {L : List (Nat × Blk)}
theorem parts_one {p dv x2 b m j k a t : Nat} {D : Dsk} {s : List UInt8} {G : Pgr} {J : Nat → List (Nat × Blk) → Prop} {B H : AH} {Ls Lm Lj : List (Nat × Blk)} {mv : Value} (hU : D.Up (2 * m)) (hm2 : m ≤ 512) (hc : D.cache.length < 1000000) (hd : G.down = false) (hH : D.Has s j k) (hjm : j + 2 + k ≤ m)
    (yl : ∀ i, i < k → ∀ (B H : AH) (Lj Lx : List (Nat × Blk)), J i Lj → St H0 B0 B (Lj ++ Lx) H → Ev (fun K _ => rn K (yOff + b) [.agg #[i64 (j + 2 + i), str (pieceT s i), .int .i64 0]] H) (fun r => r.1 = .bool true ∧ ∃ B' Lj', MoC B B' ∧ J (i + 1) Lj' ∧ St H0 B0 B' (Lj' ++ Lx) r.2))
    (htk : a + t < k) (hP : PK (ptr p 0) (ptr dv 0) G D Ls) (hF : FR mv (pagesL (j + a) t) Lm) (hJ : J (a + t) Lj) (hS : St H0 B0 B (Ls ++ ((x2, ⟨[ptr p 0], 31, .fix⟩) :: (Lm ++ (Lj ++ L)))) H)
    (next : a + t + 1 < k → ∀ (B1 H1 : AH) (Ls1 Lm1 Lj1 : List (Nat × Blk)) (mv1 : Value), MoC B B1 → PK (ptr p 0) (ptr dv 0) G D Ls1 → FR mv1 (pagesL (j + a) (t + 1)) Lm1 → J (a + (t + 1)) Lj1 → St H0 B0 B1 (Ls1 ++ ((x2, ⟨[ptr p 0], 31, .fix⟩) :: (Lm1 ++ (Lj1 ++ L)))) H1 →
      Ev (fun K K2 => f53_L0 K (.func (.yield b) #[] #[]) (ptr x2 0) mv1 (i64 (j + 2 + (a + (t + 1)))) K2 H1) (fun o => ∃ B' Ls' Lj' H', o = (.ret, f53_X_L0, H') ∧ MoC B B' ∧ PK (ptr p 0) (ptr dv 0) G D Ls' ∧ J k Lj' ∧ St H0 B0 B' (Ls' ++ (Lj' ++ L)) H')) :
    Ev (fun K K2 => f53_L0 K (.func (.yield b) #[] #[]) (ptr x2 0) mv (i64 (j + 2 + (a + t))) K2 H) (fun o => ∃ B' Ls' Lj' H', o = (.ret, f53_X_L0, H') ∧ MoC B B' ∧ PK (ptr p 0) (ptr dv 0) G D Ls' ∧ J k Lj' ∧ St H0 B0 B' (Ls' ++ (Lj' ++ L)) H') := by
  have hdn : D.n / 2 = m := by have := hU.n; omega
  refine Ev.succ (fun K K2 => f53_L0_succ K _ _ _ _ K2 H) ?_
  have ix2 : InL x2 ⟨[ptr p 0], 31, .fix⟩ (Ls ++ ((x2, ⟨[ptr p 0], 31, .fix⟩) :: (Lm ++ (Lj ++ L)))) := ⟨List.mem_append_right _ (.head _)⟩
  repeat (first | refine Ev.s ?_ | refine Ev.newC fun _ _ _ => ?_ | refine Ev.boxC fun _ _ _ => ?_ | refine Ev.stC fun _ _ => ?_ | refine Ev.sc (by omega) ?_ | refine Ev.scg (by omega) ?_)
  have er : G.read D ((j + 2 + (a + t) : Nat) : Int) = ((2, bpage s j k (a + t), 0), G) := hU.gread hd (by omega) hm2 (by decide) (by decide) (bpage_len s j k (a + t)) (hH (a + t) htk)
  refine Ev.b2 (Read_specP (n := ((j + 2 + (a + t) : Nat) : Int)) hP hU.ok (by omega) hS) ?_
  rw [er]
  clear hS ix2
  rintro _ H1 ⟨rfl, Ls1, B1, hm1, hP1, hS1⟩
  dsimp only at hS1 hP1
  unfold OpenV
  dsimp only
  have hl2 : (bpage s j k (a + t)).length = 2 + (pieceT s (a + t)).length := by unfold bpage hdr; simp; omega
  have hbl := bpage_len s j k (a + t)
  have hnlt : nextB j k (a + t) < m := by unfold nextB; split <;> omega
  have hn1 : nextB j k (a + t) ≠ 1 := by unfold nextB; split <;> omega
  have g0 : (bpage s j k (a + t)).getD 0 0 = UInt8.ofNat (nextB j k (a + t) / 256) := rfl
  have g1 : (bpage s j k (a + t)).getD 1 0 = UInt8.ofNat (nextB j k (a + t)) := rfl
  have gd : (bpage s j k (a + t)).drop 2 = pieceT s (a + t) := rfl
  have hnv := hdr_val (nextB j k (a + t)) (by omega)
  have hu0 := (UInt8.ofNat (nextB j k (a + t) / 256)).toNat_lt
  have hu1 := (UInt8.ofNat (nextB j k (a + t))).toNat_lt
  repeat (first | (first | refine Ev.s ?_ | refine Ev.newC fun _ _ _ => ?_ | refine Ev.boxC fun _ _ _ => ?_ | refine Ev.stC fun _ _ => ?_ | refine Ev.sc (by omega) ?_ | refine Ev.scg (by omega) ?_) | rw [decide_eq_true (by omega)] | rw [decide_eq_false (by omega)])
  have hlv := hF.len (Und.eq (P := Tryd.prog) (t := 63))
  rw [pagesL_len] at hlv
  refine Ev.gPrim hlv rfl ?_
  repeat (first | (first | refine Ev.s ?_ | refine Ev.newC fun _ _ _ => ?_ | refine Ev.boxC fun _ _ _ => ?_ | refine Ev.stC fun _ _ => ?_ | refine Ev.sc (by omega) ?_ | refine Ev.scg (by omega) ?_) | rw [decide_eq_true (by omega)] | rw [decide_eq_false (by omega)])
  have hS2 : St H0 B0 B1 (Lm ++ ((x2, ⟨[ptr p 0], 31, .fix⟩) :: (Ls1 ++ (Lj ++ L)))) H1 := hS1.perm (perm1 Lm _ Ls1 (Lj ++ L))
  refine FRS.push (x := ((j + 2 + (a + t) : Nat) : Int)) eltI hF hS2 (by rw [pagesL_len]; omega) fun mv' Lm' H2 hF' hS3 => ?_
  clear hS1 hS2
  have ep : pagesL (j + a) t ++ [((j + 2 + (a + t) : Nat) : Int)] = pagesL (j + a) (t + 1) := by rw [pagesL_succ, show j + a + 2 + t = j + 2 + (a + t) by omega]
  rw [ep] at hF'
  have hS4 : St H0 B0 B1 (Ls1 ++ ((x2, ⟨[ptr p 0], 31, .fix⟩) :: (Lm' ++ (Lj ++ L)))) H2 := hS3.perm (perm1 Ls1 _ Lm' (Lj ++ L))
  clear hS3
  refine Ev.prim (ix_str 0 rfl (by omega)) ?_
  rw [g0]
  repeat (first | refine Ev.s ?_ | refine Ev.newC fun _ _ _ => ?_ | refine Ev.boxC fun _ _ _ => ?_ | refine Ev.stC fun _ _ => ?_ | refine Ev.sc (by omega) ?_ | refine Ev.scg (by omega) ?_)
  refine Ev.prim (shl8 (by omega)) ?_
  refine Ev.prim (ix_str 1 rfl (by omega)) ?_
  rw [g1]
  repeat (first | refine Ev.s ?_ | refine Ev.newC fun _ _ _ => ?_ | refine Ev.boxC fun _ _ _ => ?_ | refine Ev.stC fun _ _ => ?_ | refine Ev.sc (by omega) ?_ | refine Ev.scg (by omega) ?_)
  refine Ev.prim (or8 (by omega) hu1) ?_
  rw [hnv]
  have ix2 : InL x2 ⟨[ptr p 0], 31, .fix⟩ (Ls1 ++ ((x2, ⟨[ptr p 0], 31, .fix⟩) :: (Lm' ++ (Lj ++ L)))) := ⟨List.mem_append_right _ (.head _)⟩
  repeat (first | refine Ev.s ?_ | refine Ev.newC fun _ _ _ => ?_ | refine Ev.boxC fun _ _ _ => ?_ | refine Ev.stC fun _ _ => ?_ | refine Ev.sc (by omega) ?_ | refine Ev.scg (by omega) ?_)
  rw [decide_eq_false hn1]
  repeat (first | refine Ev.s ?_ | refine Ev.newC fun _ _ _ => ?_ | refine Ev.boxC fun _ _ _ => ?_ | refine Ev.stC fun _ _ => ?_ | refine Ev.sc (by omega) ?_ | refine Ev.scg (by omega) ?_)
  refine Ev.b2 (Pages_spec hP1 hU.ok hS4 fun x hx => List.mem_append_left _ hx) ?_
  rintro v H3 h
  cases h
  rw [hdn]
  repeat (first | (first | refine Ev.s ?_ | refine Ev.newC fun _ _ _ => ?_ | refine Ev.boxC fun _ _ _ => ?_ | refine Ev.stC fun _ _ => ?_ | refine Ev.sc (by omega) ?_ | refine Ev.scg (by omega) ?_) | rw [decide_eq_true (by omega)] | rw [decide_eq_false (by omega)])
  -- the round of what is ranged
  have round : ∀ (H3 : AH), St H0 B0 B1 (Ls1 ++ ((x2, ⟨[ptr p 0], 31, .fix⟩) :: (Lm' ++ (Lj ++ L)))) H3 → Ev (fun K _ => rn K (yOff + b) [.agg #[i64 (j + 2 + (a + t)), str (pieceT s (a + t)), .int .i64 0]] H3) (fun r => r.1 = .bool true ∧ ∃ B' Lj', MoC B1 B' ∧ J (a + t + 1) Lj' ∧ St H0 B0 B' (Ls1 ++ ((x2, ⟨[ptr p 0], 31, .fix⟩) :: (Lm' ++ (Lj' ++ L)))) r.2) := by
    intro H3 hS5
    refine (yl (a + t) htk B1 H3 Lj (Ls1 ++ ((x2, ⟨[ptr p 0], 31, .fix⟩) :: (Lm' ++ L))) hJ (hS5.perm (perm2 Ls1 _ Lm' Lj L).symm)).mono ?_
    rintro r ⟨h1, B', Lj', hm', hJ', hS'⟩
    exact ⟨h1, B', Lj', hm', hJ', hS'.perm (perm2 Ls1 _ Lm' Lj' L)⟩
  by_cases hlast : a + t + 1 < k
  · have hnx : nextB j k (a + t) = j + 2 + (a + (t + 1)) := by unfold nextB; rw [if_pos hlast]; omega
    rw [hnx]
    repeat (first | (first | refine Ev.s ?_ | refine Ev.newC fun _ _ _ => ?_ | refine Ev.boxC fun _ _ _ => ?_ | refine Ev.stC fun _ _ => ?_ | refine Ev.sc (by omega) ?_ | refine Ev.scg (by omega) ?_) | rw [decide_eq_true (by omega)] | rw [decide_eq_false (by omega)])
    refine Ev.b2 (Contains_spec ((j + 2 + (a + (t + 1)) : Nat) : Int) hF' (by rw [pagesL_len]; omega) hS4 fun x hx => List.mem_append_right _ (.tail _ (List.mem_append_left _ hx))) ?_
    rintro v H4 h
    cases h
    rw [decide_eq_false (fun h => by have := (pagesL_mem.1 h).2; omega)]
    repeat (first | refine Ev.s ?_ | refine Ev.newC fun _ _ _ => ?_ | refine Ev.boxC fun _ _ _ => ?_ | refine Ev.stC fun _ _ => ?_ | refine Ev.sc (by omega) ?_ | refine Ev.scg (by omega) ?_)
    refine Ev.prim (slc_str (l := bpage s j k (a + t)) 2 rfl (by omega)) ?_
    rw [gd]
    repeat (first | refine Ev.s ?_ | refine Ev.newC fun _ _ _ => ?_ | refine Ev.boxC fun _ _ _ => ?_ | refine Ev.stC fun _ _ => ?_ | refine Ev.sc (by omega) ?_ | refine Ev.scg (by omega) ?_)
    refine Ev.b2 (round _ hS4) ?_
    rintro _ H5 ⟨rfl, B5, Lj5, hm5, hJ5, hS5⟩
    dsimp only at hS5
    repeat (first | (first | refine Ev.s ?_ | refine Ev.newC fun _ _ _ => ?_ | refine Ev.boxC fun _ _ _ => ?_ | refine Ev.stC fun _ _ => ?_ | refine Ev.sc (by omega) ?_ | refine Ev.scg (by omega) ?_) | rw [decide_eq_true (by omega)] | rw [decide_eq_false (by omega)])
    exact next hlast B5 H5 Ls1 Lm' Lj5 mv' ⟨hm1.mo.trans hm5.mo⟩ hP1 hF' hJ5 hS5
  · have hnx : nextB j k (a + t) = 0 := by unfold nextB; rw [if_neg hlast]
    rw [hnx]
    repeat (first | (first | refine Ev.s ?_ | refine Ev.newC fun _ _ _ => ?_ | refine Ev.boxC fun _ _ _ => ?_ | refine Ev.stC fun _ _ => ?_ | refine Ev.sc (by omega) ?_ | refine Ev.scg (by omega) ?_) | rw [decide_eq_true (by omega)] | rw [decide_eq_false (by omega)])
    refine Ev.prim (slc_str (l := bpage s j k (a + t)) 2 rfl (by omega)) ?_
    rw [gd]
    repeat (first | refine Ev.s ?_ | refine Ev.newC fun _ _ _ => ?_ | refine Ev.boxC fun _ _ _ => ?_ | refine Ev.stC fun _ _ => ?_ | refine Ev.sc (by omega) ?_ | refine Ev.scg (by omega) ?_)
    refine Ev.b2 (round _ hS4) ?_
    rintro _ H5 ⟨rfl, B5, Lj5, hm5, hJ5, hS5⟩
    dsimp only at hS5
    repeat (first | (first | refine Ev.s ?_ | refine Ev.newC fun _ _ _ => ?_ | refine Ev.boxC fun _ _ _ => ?_ | refine Ev.stC fun _ _ => ?_ | refine Ev.sc (by omega) ?_ | refine Ev.scg (by omega) ?_) | rw [decide_eq_true (by omega)] | rw [decide_eq_false (by omega)])
    rw [show a + t + 1 = k by omega] at hJ5
    refine Ev.ret ⟨B5, Ls1, Lj5, H5, rfl, ⟨hm1.mo.trans hm5.mo⟩, hP1, hJ5, ?_⟩
    exact hS5.drop (List.Sublist.append_left (.cons _ (List.sublist_append_right _ _)) _)
theorem parts_loop {p dv x2 b m j k a : Nat} {D : Dsk} {s : List UInt8} {G : Pgr} {J : Nat → List (Nat × Blk) → Prop} (hU : D.Up (2 * m)) (hm2 : m ≤ 512) (hc : D.cache.length < 1000000) (hd : G.down = false) (hH : D.Has s j k) (hjm : j + 2 + k ≤ m)
    (yl : ∀ i, i < k → ∀ (B H : AH) (Lj Lx : List (Nat × Blk)), J i Lj → St H0 B0 B (Lj ++ Lx) H → Ev (fun K _ => rn K (yOff + b) [.agg #[i64 (j + 2 + i), str (pieceT s i), .int .i64 0]] H) (fun r => r.1 = .bool true ∧ ∃ B' Lj', MoC B B' ∧ J (i + 1) Lj' ∧ St H0 B0 B' (Lj' ++ Lx) r.2)) :
    ∀ (q t : Nat) (B H : AH) (Ls Lm Lj : List (Nat × Blk)) (mv : Value), a + t + q + 1 = k → PK (ptr p 0) (ptr dv 0) G D Ls → FR mv (pagesL (j + a) t) Lm → J (a + t) Lj → St H0 B0 B (Ls ++ ((x2, ⟨[ptr p 0], 31, .fix⟩) :: (Lm ++ (Lj ++ L)))) H →
    Ev (fun K K2 => f53_L0 K (.func (.yield b) #[] #[]) (ptr x2 0) mv (i64 (j + 2 + (a + t))) K2 H) (fun o => ∃ B' Ls' Lj' H', o = (.ret, f53_X_L0, H') ∧ MoC B B' ∧ PK (ptr p 0) (ptr dv 0) G D Ls' ∧ J k Lj' ∧ St H0 B0 B' (Ls' ++ (Lj' ++ L)) H') := by
  intro q
  have hdn : D.n / 2 = m := by have := hU.n; omega
  induction q with
  | zero =>
    intro t B H Ls Lm Lj mv hq hP hF hJ hS
    exact parts_one hU hm2 hc hd hH hjm yl (by omega) hP hF hJ hS (fun h => by omega)
  | succ q ih =>
    intro t B H Ls Lm Lj mv hq hP hF hJ hS
    refine parts_one hU hm2 hc hd hH hjm yl (by omega) hP hF hJ hS (fun h B1 H1 Ls1 Lm1 Lj1 mv1 hm1 hP1 hF1 hJ1 hS1 => ?_)
    refine (ih (t + 1) B1 H1 Ls1 Lm1 Lj1 mv1 (by omega) hP1 hF1 hJ1 hS1).mono ?_
    rintro o ⟨B', Ls', Lj', H', rfl, hm', h1, h2, h3⟩
    exact ⟨B', Ls', Lj', H', rfl, ⟨hm1.mo.trans hm'.mo⟩, h1, h2, h3⟩
end
end Go.AM.C
set_option linter.unusedVariables false
set_option linter.unusedSimpArgs false
set_option maxRecDepth 100000
namespace Go.AM.C
open Go Go.AM Go.Proofs
attribute [local irreducible] run bin un ld st box newV mkS fldA fld ixA ix slc slc3 build buildS cv cvS ap cpy lenV gOp pickV b2 aIf aChk evalK resume iterD Option.bind

section
variable {B B0 H0 H : AH} {L : List (Nat × Blk)}
end
end Go.AM.C
