/-
  Facts of the abstract evaluator and of the functions that the law reaches, part 2. Conditions: none.
-/
import Derived.Test.YtbalihedocchfaaGreatDoorG1BlobPlays
set_option linter.unusedVariables false
set_option linter.unusedSimpArgs false
set_option linter.unnecessarySimpa false
set_option exponentiation.threshold 200000
set_option maxRecDepth 100000
namespace Go.AM
structure Dsk where
  n : Nat
  bytes : List UInt8
  cache : List (Nat × List UInt8)
  fuse : Int
  down : Bool
structure Dsk.OK (D : Dsk) : Prop where
  n1 : 1 ≤ D.n
  n2 : D.n ≤ 1024
  len : D.bytes.length = 64 * D.n
  ca : ∀ p ∈ D.cache, p.1 < D.n ∧ p.2.length = 64
  fu : -1 ≤ D.fuse ∧ D.fuse < 9223372036854775808
def layB (bs : List UInt8) (a : Nat) (s : List UInt8) : List UInt8 := bs.take (64 * a) ++ (s ++ bs.drop (64 * a + s.length))
def Dsk.sector (D : Dsk) (i : Nat) : List UInt8 := (D.bytes.drop (64 * i)).take 64
def Dsk.new (n : Nat) : Dsk := ⟨n, List.replicate (64 * n) 0, [], -1, false⟩
def Dsk.act (D : Dsk) (f : Dsk → Dsk) : Int × Dsk := if D.fuse = 0 then (7, { D with down := true }) else (0, f { D with fuse := max (D.fuse - 1) (-1) })
def Dsk.put (i : Nat) (s : List UInt8) (D : Dsk) : Dsk := { D with cache := D.cache ++ [(i, s)] }
def Dsk.write (D : Dsk) (i : Int) (s : List UInt8) : Int × Dsk :=
  if D.down = true then (7, D) else if i < 0 ∨ (D.n : Int) ≤ i ∨ s.length ≠ 64 then (1, D) else D.act (Dsk.put i.toNat s)
def find (l : List (Nat × List UInt8)) (i : Nat) : Option (List UInt8) := (l.reverse.find? fun p => p.1 == i).map (·.2)
def Dsk.look (D : Dsk) (i : Nat) : List UInt8 := (find D.cache i).getD (D.sector i)
def Dsk.read (D : Dsk) (i : Int) : List UInt8 × Int := if D.down = true then ([], 7) else if i < 0 ∨ (D.n : Int) ≤ i then ([], 1) else (D.look i.toNat, 0)
def layAll (l : List (Nat × List UInt8)) (bs : List UInt8) : List UInt8 := l.foldl (fun bs p => layB bs p.1 p.2) bs
def Dsk.flush (D : Dsk) : Dsk := { D with bytes := layAll D.cache D.bytes, cache := [] }
def Dsk.barrier (D : Dsk) : Int × Dsk := if D.down = true then (7, D) else D.act Dsk.flush
theorem layB_len {bs : List UInt8} {a : Nat} {s : List UInt8} (h : 64 * a + s.length ≤ bs.length) : (layB bs a s).length = bs.length := by
  unfold layB
  simp only [List.length_append, List.length_take, List.length_drop]
  omega
theorem layAll_len : ∀ (l : List (Nat × List UInt8)) (bs : List UInt8) (n : Nat), bs.length = 64 * n → (∀ p ∈ l, p.1 < n ∧ p.2.length = 64) → (layAll l bs).length = 64 * n
  | [], bs, n, h, _ => h
  | p :: l, bs, n, h, hp => by
    have h1 := hp p (by simp)
    exact layAll_len l (layB bs p.1 p.2) n (by rw [layB_len (by omega)]; exact h) fun q hq => hp q (by simp [hq])
theorem Dsk.ok_new {n : Nat} (h1 : 1 ≤ n) (h2 : n ≤ 1024) : (Dsk.new n).OK := ⟨h1, h2, by simp [Dsk.new], (fun p h => by cases h), by simp [Dsk.new]⟩
theorem Dsk.OK.actD {D : Dsk} (h : D.OK) : Dsk.OK { D with fuse := max (D.fuse - 1) (-1) } := ⟨h.n1, h.n2, h.len, h.ca, by have := h.fu; show -1 ≤ max (D.fuse - 1) (-1) ∧ max (D.fuse - 1) (-1) < _; omega⟩
theorem Dsk.OK.act {D : Dsk} (h : D.OK) {f : Dsk → Dsk} (hf : ∀ E : Dsk, E.n = D.n → E.bytes = D.bytes → E.cache = D.cache → E.OK → (f E).OK) : (D.act f).2.OK := by
  unfold Dsk.act
  split
  · exact ⟨h.n1, h.n2, h.len, h.ca, h.fu⟩
  · exact hf _ rfl rfl rfl h.actD
theorem Dsk.OK.put {D : Dsk} (h : D.OK) {i : Nat} {s : List UInt8} (hi : i < D.n) (hs : s.length = 64) : (D.put i s).OK := by
  refine ⟨h.n1, h.n2, h.len, fun p hp => ?_, h.fu⟩
  rcases List.mem_append.1 hp with hp | hp
  · exact h.ca p hp
  · simp at hp; subst hp; exact ⟨hi, hs⟩
theorem Dsk.OK.flush {D : Dsk} (h : D.OK) : D.flush.OK := ⟨h.n1, h.n2, layAll_len _ _ _ h.len h.ca, (fun p hp => by cases hp), h.fu⟩
theorem Dsk.OK.write {D : Dsk} (h : D.OK) (i : Int) (s : List UInt8) : (D.write i s).2.OK := by
  unfold Dsk.write
  split
  · exact h
  · split
    · exact h
    · rename_i hc
      have h1 : 0 ≤ i := by omega
      have h2 : i < D.n := by omega
      exact h.act fun E e1 _ _ hE => hE.put (by rw [e1]; omega) (by omega)
instance (priority := high) {R : Type} {x : Nat → Nat → Option R} {p : Prop} : Step (fun k n => aChk (Value.bool true = .bool false → p) (x k n)) x := ⟨fun h2 => Ev.chk (fun h => by cases h) h2⟩
instance (priority := high) {R α : Type} {x : Nat → Nat → Option R} {b : Bool} {E : Option α} {v : α} [h : PrimEq E v] : Step (fun k n => aChk (Value.bool b = .bool b → E = some v) (x k n)) x := ⟨fun h2 => Ev.chk (fun _ => h.eq) h2⟩
theorem perm22 {α : Type} (a b c d : α) : [a, b, c, d].Perm [c, d, a, b] := List.perm_append_comm (l₁ := [a, b]) (l₂ := [c, d])
theorem b2_id (x : Option (Value × AH)) : (b2 x fun v h => some (v, h)) = x := by
  cases x <;> rfl
instance {P : Program} {t e : TypeId} {d o : Nat} [h : Und P t (.pointer e)] : PrimEq (bin P .eql t (ptr d o) (.pointer none)) (.bool false) := ⟨by
  unfold bin ptr
  rw [if_neg (by simp [flat1])]
  simp only [h.eq, Option.bind_some, nilEq]
  rfl⟩
instance {P : Program} {t e : TypeId} {d o : Nat} [h : Und P t (.pointer e)] : PrimEq (bin P .neq t (ptr d o) (.pointer none)) (.bool true) := ⟨by
  unfold bin ptr
  rw [if_neg (by simp [flat1])]
  simp only [h.eq, Option.bind_some, nilEq]
  rfl⟩
theorem max_int {k : IntKind} {a b : Int} : fold1 maxV [.int k a, .int k b] = some (.int k (max a b)) := by
  show some (Value.int k (if b > a then b else a)) = _
  congr 2
  omega
theorem min_int {k : IntKind} {a b : Int} : fold1 minV [.int k a, .int k b] = some (.int k (min a b)) := by
  show some (Value.int k (if b < a then b else a)) = _
  congr 2
  omega
section
variable {P : Program} {R : Type} {H0 B0 B H : AH} {L L' : List (Nat × Blk)}
theorem Ev.setSt {b c d : Nat} {T : List Value} {el : TypeId} {f key : Nat} {g : Nat → Nat → AH → Option R} {Q : R → Prop} (hS : St H0 B0 B L H) (hm : (b, ⟨.int .i64 (c : Int) :: T, el, .loop f key⟩) ∈ L)
    (hu : Upd b ⟨.int .i64 (c : Int) :: T, el, .loop f key⟩ ⟨.int .i64 (d : Int) :: T, el, .loop f key⟩ L L') (h : ∀ H', St H0 B0 B L' H' → Ev (fun k n => g k n H') Q) : Ev (fun k n => (AM.setSt H b c d).bind (g k n)) Q := by
  refine Ev.prim ?_ (h _ (hS.put (cs := .int .i64 (d : Int) :: T) hu))
  unfold AM.setSt
  rw [hS.get hm]
  simp only [Option.bind_some, if_true]
theorem Ev.rgBack {b : Nat} {e : EX} {T : List Value} {el : TypeId} {f key : Nat} {K : Nat → Nat → EX → AH → Option R} {Q : R → Prop} (hS : St H0 B0 B ((b, ⟨.int .i64 (xSt e : Nat) :: T, el, .loop f key⟩) :: L) H)
    (h : ∀ H', St H0 B0 B L H' → Ev (fun k n => K k n e H') Q) : Ev (fun k n => AM.rgBack b H (K k n)) Q := by
  refine Ev.eq (fun k n => ?_) (h _ hS.kill)
  unfold AM.rgBack getSt
  rw [hS.get (.head _)]
  simp only [Option.bind_some]
  cases e <;> rfl
end
theorem take_ex {α : Type} {l : List α} {m : Nat} (h : m < l.length) : ∃ x, l[m]? = some x ∧ l.take (m + 1) = l.take m ++ [x] := by
  refine ⟨l[m], List.getElem?_eq_getElem h, ?_⟩
  rw [List.take_add_one, List.getElem?_eq_getElem h]
  rfl
theorem find_snoc (l : List (Nat × List UInt8)) (a : Nat) (s : List UInt8) (i : Nat) : find (l ++ [(a, s)]) i = if a = i then some s else find l i := by
  unfold find
  simp only [List.reverse_append, List.reverse_cons, List.reverse_nil, List.nil_append, List.cons_append, List.find?_cons]
  by_cases h : a = i
  · simp [h]
  · rw [if_neg h, show (a == i) = false by simpa using h]
variable {P : Program} {R : Type} {H0 B0 B H : AH} {L : List (Nat × Blk)}
def GRS (e : TypeId) (sz : Nat) (v : Value) (n : Nat) (cs : List Value) (Lx : List (Nat × Blk)) : Prop :=
  (n = 0 ∧ cs = [] ∧ (v = .slice none 0 0 ∨ ∃ b off, v = sl b off 0 0) ∧ Lx = []) ∨
  (n ≠ 0 ∧ cs.length = n * sz ∧ ∃ b kd cap, v = sl b 0 n cap ∧ ((kd = .grow ∨ kd = .buf) ∧ cap ≠ 0 ∧ n ≤ cap ∨ kd = .fix ∧ cap = n) ∧ Lx = [(b, ⟨cs, e, kd⟩)])
section
variable {e : TypeId} {sz n : Nat} {v : Value} {cs : List Value} {Lx : List (Nat × Blk)}
theorem GRS.nil : GRS e sz (.slice none 0 0) 0 [] [] := .inl ⟨rfl, rfl, .inl rfl, rfl⟩
theorem GRS.cell (h : GRS e sz v n cs Lx) : IsCell v := by
  rcases h with ⟨_, _, rfl | ⟨b, off, rfl⟩, _⟩ | ⟨_, _, b, kd, cap, rfl, _, _⟩ <;> exact inferInstance
theorem GRS.len {t e' : TypeId} (hU : P.underlying t = some (.slice e')) (h : GRS e sz v n cs Lx) : lenV P t v = some (i64 n) := by
  rcases h with ⟨rfl, _, rfl | ⟨b, off, rfl⟩, _⟩ | ⟨_, _, b, kd, cap, rfl, _⟩ <;> exact lenV_sl hU
theorem GRS.length (h : GRS e sz v n cs Lx) : cs.length = n * sz := by
  rcases h with ⟨rfl, rfl, _⟩ | ⟨_, h, _⟩
  · simp
  · exact h
theorem GRS.acc (h : GRS e sz v n cs Lx) (hS : St H0 B0 B (Lx ++ L) H) : GAcc e sz H0 B0 B L H v n cs := by
  rcases h with ⟨rfl, rfl, hv, rfl⟩ | ⟨hne, hl, b, kd, cap, hv, hk, rfl⟩
  · exact .inl ⟨rfl, rfl, hv, hS⟩
  · exact .inr ⟨hne, hl, b, kd, cap, hv, hk, hS⟩
theorem GAcc.grs (h : GAcc e sz H0 B0 B L H v n cs) : ∃ Lx, GRS e sz v n cs Lx ∧ St H0 B0 B (Lx ++ L) H := by
  rcases h with ⟨h1, h2, hv, hS⟩ | ⟨hn, hl, b, kd, cap, hv, hk, hS⟩
  · exact ⟨[], .inl ⟨h1, h2, hv, rfl⟩, hS⟩
  · exact ⟨[(b, ⟨cs, e, kd⟩)], .inr ⟨hn, hl, b, kd, cap, hv, hk, rfl⟩, hS⟩
theorem GRS.now {Ly : List (Nat × Blk)} (h : GRS e sz v n cs Lx) (hS : St H0 B0 B Ly H) (hsub : ∀ p ∈ Lx, p ∈ Ly) : ScN H v n sz cs := by
  rcases h with ⟨rfl, rfl, rfl | ⟨b, off, rfl⟩, _⟩ | ⟨hn, hl, b, kd, cap, rfl, hk, rfl⟩
  · exact .inl ⟨rfl, rfl, rfl⟩
  · exact .inr ⟨b, off, 0, rfl, Nat.le_refl _, by simp, .inl rfl⟩
  · refine .inr ⟨b, 0, cap, rfl, by rcases hk with ⟨_, _, h⟩ | ⟨_, h⟩ <;> omega, hl, .inr ⟨⟨cs, e, kd⟩, hS.get (hsub _ (by simp)), ?_⟩⟩
    unfold rdN
    rw [if_pos (by simp only; omega), List.drop_zero, List.take_of_length_le (by simp only; omega)]
end
theorem ScN.ldAt {P : Program} {t e : TypeId} {z : List Value} {sz by_ : Nat} [hE : EltS P t e z sz by_] {H : AH} {v : Value} {n i : Nat} {cs : List Value} {k : IntKind} (h : ScN H v n sz cs) (hi : i < n) (ha : aggT P e = some true) :
    ∃ p, ixA P t v (.int k (i : Int)) = some p ∧ ld P e H p = some (.agg ((cs.drop (i * sz)).take sz).toArray) := by
  rcases h with ⟨_, h, _⟩ | ⟨b, off, cap, rfl, hc, hl, h⟩
  · omega
  · rcases h with h | ⟨K, h1, h2⟩
    · omega
    refine ⟨ptr b (off + i * sz), ?_, ?_⟩
    · unfold ixA sl
      rw [hE.U]
      simp only
      rw [if_pos ⟨hE.I, by omega, by omega⟩, hE.S]
      simp
    · unfold AM.ld ldA AM.ptr
      rw [ha]
      simp only
      rw [h1, Option.bind_some, hE.S]
      obtain ⟨h3, h4⟩ := rdN_some h2
      have hle : i * sz + sz ≤ n * sz := by rw [← Nat.succ_mul]; exact Nat.mul_le_mul_right _ hi
      unfold rdN
      rw [if_pos (by omega), Option.map_some]
      congr 2
      conv => rhs; rw [h4]
      rw [List.drop_take, List.take_take, List.drop_drop, Nat.min_eq_left (by omega)]
def caCells (l : List (Nat × List UInt8)) : List Value := l.flatMap fun p => [i64 p.1, str p.2]
theorem caCells_at {l : List (Nat × List UInt8)} {i a : Nat} {s : List UInt8} (h : l[i]? = some (a, s)) : ((caCells l).drop (i * 2)).take 2 = [i64 a, str s] := by
  induction l generalizing i with
  | nil => simp at h
  | cons p l ih =>
    cases i with
    | zero => simp at h; subst h; rfl
    | succ i =>
      rw [show (i + 1) * 2 = (i * 2 + 1) + 1 by omega]
      exact ih (by simpa using h)
theorem lay_at {l : List (Nat × List UInt8)} {i a : Nat} {s bs : List UInt8} (h : l[i]? = some (a, s)) : layAll (l.take (i + 1)) bs = layB (layAll (l.take i) bs) a s := by
  unfold layAll
  rw [List.take_add_one, h]
  simp
abbrev byts (l : List UInt8) : List Value := (l.map UInt8.toNat).map u8
theorem byts_len (l : List UInt8) : (byts l).length = l.length := by simp
def IsDisk (tD tB tW : TypeId) (p : Value) (D : Dsk) (Ls : List (Nat × Blk)) : Prop :=
  ∃ d bb cv Lc, p = ptr d 0 ∧ GRS tW 2 cv D.cache.length (caCells D.cache) Lc ∧
    Ls = (d, ⟨[sl bb 0 (64 * D.n) (64 * D.n), cv, .int .i64 D.fuse, .bool D.down], tD, .fix⟩) :: (bb, ⟨byts D.bytes, tB, .fix⟩) :: Lc
section
variable {t u e : TypeId} {z : Value} {sz : Nat}
theorem byts_back (l : List UInt8) : (l.map UInt8.toNat).map (fun n => UInt8.ofNat n) = l := by
  rw [List.map_map]
  conv => rhs; rw [← List.map_id l]
  exact List.map_congr_left fun x _ => by simp
theorem all_byts (l : List UInt8) : (byts l).all isCell = true := by simp [isCell]
theorem byts_take (l : List UInt8) (n : Nat) : byts (l.take n) = (byts l).take n := by simp [List.map_take]
theorem byts_drop (l : List UInt8) (n : Nat) : byts (l.drop n) = (byts l).drop n := by simp [List.map_drop]
theorem byts_app (a b : List UInt8) : byts (a ++ b) = byts a ++ byts b := by simp
theorem byts_rep (n : Nat) : byts (List.replicate n 0) = List.replicate n (.int .u8 0) := by simp
theorem byts_lay (bs s : List UInt8) (a : Nat) : byts (layB bs a s) = spl (byts bs) (64 * a) (byts s) := by
  unfold layB spl
  rw [byts_app, byts_app, byts_take, byts_drop, byts_len]
theorem cellsOf_str (l : List UInt8) : cellsOfBytes ⟨l.toArray⟩ = byts l := by
  unfold cellsOfBytes
  simp
theorem upd_same_list {b : Nat} {K : Blk} {L L' : List (Nat × Blk)} (h : Upd b K K L L') : L' = L := by
  generalize hK : K = K' at h
  induction h with
  | head => rw [← hK]
  | tail x _ ih => rw [ih]
theorem Ev.cpyStr {L L' : List (Nat × Blk)} {b off n cap : Nat} {cs : List Value} {kd : BK} {l : List UInt8} {g : Nat → Nat → Value → AH → Option R} {Q : R → Prop} [hE : Elt P t e z sz] (hS : St H0 B0 B L H) (hm : (b, ⟨cs, e, kd⟩) ∈ L)
    (hn : l.length ≤ n) (ho : off + l.length ≤ cs.length) (hk : kd.wr = true) (hu : Upd b ⟨cs, e, kd⟩ ⟨spl cs off (byts l), e, kd⟩ L L') (hq : ∀ H', St H0 B0 B L' H' → Ev (fun k m => g k m (i64 l.length) H') Q) :
    Ev (fun k m => Go.AM.b2 (Go.AM.cpy P t H (sl b off n cap) (str l)) (g k m)) Q := by
  have hmin : min l.length n = l.length := Nat.min_eq_left hn
  have e1 : sliceCells 1 H (str l) l.length = some (byts l) := by
    show (if l.length ≤ l.length then some ((cellsOfBytes ⟨l.toArray⟩).take l.length) else none) = _
    rw [if_pos (Nat.le_refl _), cellsOf_str, List.take_of_length_le (by rw [byts_len]; exact Nat.le_refl _)]
  have e2 : lenOf (str l) = some l.length := rfl
  by_cases h0 : l.length = 0
  · have : l = [] := List.length_eq_zero_iff.mp h0
    subst this
    have hsp : spl cs off (byts []) = cs := by simp [spl]
    rw [hsp] at hu
    have hLL := upd_same_list hu
    subst hLL
    refine Ev.prim2 ?_ (hq H hS)
    unfold Go.AM.cpy sl
    rw [hE.U]; simp only
    rw [hE.I, if_neg (by simp), e2, Option.bind_some, hmin, hE.S, e1, Option.bind_some, if_pos h0]; rfl
  · refine Ev.prim2 ?_ (hq _ (hS.put (cs := spl cs off (byts l)) hu))
    unfold Go.AM.cpy sl
    rw [hE.U]; simp only
    rw [hE.I, if_neg (by simp), e2, Option.bind_some, hmin, hE.S, e1, Option.bind_some, if_neg h0, hS.get hm, Option.bind_some]
    simp only
    rw [if_pos ⟨hk, by rw [byts_len]; omega, all_byts l⟩]
theorem slc_own2 [hE : Elt P t e z sz] {b m i j : Nat} (h : i ≤ j ∧ j ≤ m) : slc P t (sl b 0 m m) (some (i64 i)) (some (i64 j)) = some (sl b (if m = i then 0 else i) (j - i) (m - i)) := by
  unfold slc sl
  rw [hE.U]; simp only [intOr, Option.bind_some]
  rw [if_pos ⟨hE.I, by omega, by omega, by omega⟩, hE.S]
  simp
theorem cvS_part {d : TypeId} [h1 : Und P t (.slice e)] [h2 : Und P d .string] [h3 : Und P e (.int .u8)] {L : List (Nat × Blk)} {b off n cap : Nat} {bs : List UInt8} {kd : BK} (hS : St H0 B0 B L H) (hm : (b, ⟨byts bs, e, kd⟩) ∈ L) (hn : n ≤ cap) (ho : off + n ≤ bs.length) :
    cvS P t d H (sl b off n cap) = some (str ((bs.drop off).take n)) := by
  have h : ScN H (sl b off n cap) n 1 ((((bs.drop off).take n).map UInt8.toNat).map u8) := by
    refine .inr ⟨b, off, cap, rfl, hn, by simp; omega, .inr ⟨_, hS.get hm, ?_⟩⟩
    unfold rdN
    rw [if_pos (by simp only [byts_len]; omega), Nat.mul_one]
    show some ((byts bs).drop off |>.take n) = some (byts ((bs.drop off).take n))
    rw [byts_take, byts_drop]
  have := h.cvS (P := P) (t := t) (d := d)
  rwa [byts_back] at this
end
end Go.AM
namespace Go.AM
def sec (bs : List UInt8) (j : Nat) : List UInt8 := (bs.drop (64 * j)).take 64
theorem sec_len {bs : List UInt8} {j n : Nat} (h : bs.length = 64 * n) (hj : j < n) : (sec bs j).length = 64 := by
  unfold sec; rw [List.length_take, List.length_drop]; omega
theorem sec_lay {bs s : List UInt8} {a j n : Nat} (h : bs.length = 64 * n) (ha : a < n) (hs : s.length ≤ 64) : sec (layB bs a s) j = if a = j then s ++ (sec bs j).drop s.length else sec bs j := by
  unfold sec layB
  apply List.ext_getElem?
  intro i
  split
  · rename_i he
    subst he
    simp only [List.getElem?_take, List.getElem?_drop, List.getElem?_append, List.length_take, List.length_drop]
    by_cases h1 : i < 64
    · rw [if_pos h1, if_neg (by omega)]
      by_cases h2 : i < s.length
      · rw [if_pos (by omega), if_pos h2]
        congr 1
        omega
      · rw [if_neg (by omega), if_neg h2, if_pos (by omega)]
        congr 1
        omega
    · rw [if_neg h1, if_neg (by omega), if_neg (by omega)]
  · rename_i he
    simp only [List.getElem?_take, List.getElem?_drop, List.getElem?_append, List.length_take, List.length_drop]
    by_cases h1 : i < 64
    · rw [if_pos h1, if_pos h1]
      by_cases h2 : j < a
      · rw [if_pos (by omega), if_pos (by omega)]
      · rw [if_neg (by omega), if_neg (by omega)]
        congr 1
        omega
    · rw [if_neg h1, if_neg h1]
theorem sec_lay64 {bs s : List UInt8} {a j n : Nat} (h : bs.length = 64 * n) (ha : a < n) (hs : s.length = 64) (hj : j < n) : sec (layB bs a s) j = if a = j then s else sec bs j := by
  rw [sec_lay h ha (by omega)]
  split
  · rw [List.drop_of_length_le (by rw [sec_len h hj]; omega), List.append_nil]
  · rfl
theorem layAll_snoc (l : List (Nat × List UInt8)) (p : Nat × List UInt8) (bs : List UInt8) : layAll (l ++ [p]) bs = layB (layAll l bs) p.1 p.2 := by
  unfold layAll; simp
theorem sec_layAll {n j : Nat} (hj : j < n) : ∀ (m : Nat) (l : List (Nat × List UInt8)) (bs : List UInt8), l.length = m → bs.length = 64 * n → (∀ p ∈ l, p.1 < n ∧ p.2.length = 64) → sec (layAll l bs) j = (find l j).getD (sec bs j)
  | 0, l, bs, hm, h, _ => by
    have : l = [] := List.length_eq_zero_iff.1 hm
    subst this
    rfl
  | m + 1, l, bs, hm, h, hp => by
    obtain ⟨⟨a, s⟩, hx, htk⟩ := take_ex (l := l) (m := m) (by omega)
    rw [List.take_of_length_le (by omega)] at htk
    have h1 := hp (a, s) (List.mem_of_getElem? hx)
    have ih := sec_layAll hj m (l.take m) bs (by rw [List.length_take]; omega) h fun p hp' => hp p (List.mem_of_mem_take hp')
    rw [htk, layAll_snoc, find_snoc]
    dsimp only at h1 ⊢
    rw [sec_lay64 (layAll_len _ _ n h fun p hp' => hp p (List.mem_of_mem_take hp')) h1.1 h1.2 hj, ih]
    split <;> rfl
theorem look_flush {D : Dsk} (h : D.OK) {j : Nat} (hj : j < D.n) : D.flush.look j = D.look j := sec_layAll hj _ D.cache D.bytes rfl h.len h.ca
theorem look_put {D : Dsk} {a j : Nat} {s : List UInt8} : (D.put a s).look j = if a = j then s else D.look j := by
  unfold Dsk.look Dsk.put Dsk.sector
  dsimp only
  rw [find_snoc]
  split <;> rfl
theorem look_len {D : Dsk} (h : D.OK) {j : Nat} (hj : j < D.n) : (D.look j).length = 64 := by
  rw [← look_flush h hj]
  exact sec_len (layAll_len _ _ _ h.len h.ca) hj
structure Dsk.Up (D : Dsk) (n : Nat) : Prop where
  ok : D.OK
  n : D.n = n
  fu : D.fuse = -1
  dn : D.down = false
theorem Dsk.up_new {n : Nat} (h1 : 1 ≤ n) (h2 : n ≤ 1024) : (Dsk.new n).Up n := ⟨Dsk.ok_new h1 h2, rfl, rfl, rfl⟩
theorem Dsk.Up.write {D : Dsk} {n i : Nat} {s : List UInt8} (h : D.Up n) (hi : i < n) (hs : s.length = 64) : D.write (i : Int) s = (0, D.put i s) := by
  obtain ⟨n', bytes, cache, fu, dn⟩ := D
  obtain ⟨h1, h2, h3, h4⟩ := h
  dsimp only at h2 h3 h4
  subst h2 h3 h4
  unfold Dsk.write Dsk.act Dsk.put
  dsimp only
  rw [if_neg (by decide), if_neg (by omega), if_neg (by decide)]
  simp
  rfl
theorem Dsk.Up.put {D : Dsk} {n i : Nat} {s : List UInt8} (h : D.Up n) (hi : i < n) (hs : s.length = 64) : (D.put i s).Up n := ⟨h.ok.put (by rw [h.n]; exact hi) hs, h.n, h.fu, h.dn⟩
theorem Dsk.Up.barrier {D : Dsk} {n : Nat} (h : D.Up n) : D.barrier = (0, D.flush) := by
  obtain ⟨n', bytes, cache, fu, dn⟩ := D
  obtain ⟨h1, h2, h3, h4⟩ := h
  dsimp only at h2 h3 h4
  subst h2 h3 h4
  unfold Dsk.barrier Dsk.act
  dsimp only
  rw [if_neg (by decide), if_neg (by decide)]
  rfl
theorem Dsk.Up.flush {D : Dsk} {n : Nat} (h : D.Up n) : D.flush.Up n := ⟨h.ok.flush, h.n, h.fu, h.dn⟩
theorem Dsk.Up.read {D : Dsk} {n i : Nat} (h : D.Up n) (hi : i < n) : D.read (i : Int) = (D.look i, 0) := by
  unfold Dsk.read
  rw [if_neg (by rw [h.dn]; decide), if_neg (by rw [h.n]; omega), Int.toNat_natCast]
end Go.AM
namespace Go.AM
def Dsk.pwrite (D : Dsk) (n kind : Int) (t : List UInt8) : Int × Dsk :=
  if (sealR kind t).2 ≠ 0 ∨ n < 0 ∨ n > 1048576 then (1, D)
  else if (D.write (2 * n) ((sealR kind t).1.take 64)).1 ≠ 0 then D.write (2 * n) ((sealR kind t).1.take 64)
  else (D.write (2 * n) ((sealR kind t).1.take 64)).2.write (2 * n + 1) ((sealR kind t).1.drop 64)
def Dsk.pread (D : Dsk) (n : Int) : Int × List UInt8 × Int :=
  if n < 0 ∨ n > 1048576 then (0, [], 1) else if (D.read (2 * n)).2 ≠ 0 then (0, [], (D.read (2 * n)).2)
  else if (D.read (2 * n + 1)).2 ≠ 0 then (0, [], (D.read (2 * n + 1)).2) else openR ((D.read (2 * n)).1 ++ (D.read (2 * n + 1)).1)
theorem read_len {D : Dsk} (h : D.OK) (i : Int) : (D.read i).1.length ≤ 64 := by
  unfold Dsk.read
  split
  · exact Nat.zero_le _
  · split
    · exact Nat.zero_le _
    · exact Nat.le_of_eq (look_len h (by omega))
theorem write_cache (D : Dsk) (i : Int) (s : List UInt8) : (D.write i s).2.cache.length ≤ D.cache.length + 1 := by
  unfold Dsk.write
  split
  · exact Nat.le_succ _
  · split
    · exact Nat.le_succ _
    · unfold Dsk.act
      split
      · exact Nat.le_succ _
      · show (D.cache ++ [_]).length ≤ _
        rw [List.length_append]; exact Nat.le_refl _
theorem pwrite_ok {D : Dsk} (h : D.OK) (n kind : Int) (t : List UInt8) : (D.pwrite n kind t).2.OK := by
  unfold Dsk.pwrite
  split
  · exact h
  · split
    · exact h.write _ _
    · exact (h.write _ _).write _ _
theorem pwrite_cache (D : Dsk) (n kind : Int) (t : List UInt8) : (D.pwrite n kind t).2.cache.length ≤ D.cache.length + 2 := by
  unfold Dsk.pwrite
  split
  · exact Nat.le_add_right _ _
  · split
    · exact Nat.le_succ_of_le (write_cache _ _ _)
    · have h1 := write_cache D (2 * n) ((sealR kind t).1.take 64)
      have h2 := write_cache (D.write (2 * n) ((sealR kind t).1.take 64)).2 (2 * n + 1) ((sealR kind t).1.drop 64)
      omega
theorem Dsk.Up.pwrite {D : Dsk} {m n k : Nat} {t : List UInt8} (h : D.Up (2 * m)) (hn : n < m) (hm : m ≤ 1048576) (hk : 1 ≤ k) (hk9 : k ≤ 9) (ht : t.length ≤ 120) :
    D.pwrite (n : Int) (k : Int) t = (0, (D.put (2 * n) ((sealL k t).take 64)).put (2 * n + 1) ((sealL k t).drop 64)) := by
  have h1 : ((sealL k t).take 64).length = 64 := by rw [List.length_take, seal_len ht]; rfl
  have h2 : ((sealL k t).drop 64).length = 64 := by rw [List.length_drop, seal_len ht]
  unfold Dsk.pwrite
  rw [sealR_nat hk hk9 ht, if_neg (by dsimp only; omega)]
  dsimp only
  rw [show (2 : Int) * (n : Int) = ((2 * n : Nat) : Int) by omega, h.write (by omega) h1, if_neg (by simp)]
  rw [show ((2 * n : Nat) : Int) + 1 = ((2 * n + 1 : Nat) : Int) by omega]
  exact (h.put (by omega) h1).write (by omega) h2
theorem Dsk.Up.pput {D : Dsk} {m n k : Nat} {t : List UInt8} (h : D.Up (2 * m)) (hn : n < m) (ht : t.length ≤ 120) : ((D.put (2 * n) ((sealL k t).take 64)).put (2 * n + 1) ((sealL k t).drop 64)).Up (2 * m) :=
  (h.put (by omega) (by rw [List.length_take, seal_len ht]; rfl)).put (by omega) (by rw [List.length_drop, seal_len ht])
theorem Dsk.Up.pread {D : Dsk} {m n : Nat} (h : D.Up (2 * m)) (hn : n < m) (hm : m ≤ 1048576) : D.pread (n : Int) = openR (D.look (2 * n) ++ D.look (2 * n + 1)) := by
  unfold Dsk.pread
  rw [if_neg (by omega), show (2 : Int) * (n : Int) = ((2 * n : Nat) : Int) by omega, h.read (by omega), if_neg (by simp),
    show ((2 * n : Nat) : Int) + 1 = ((2 * n + 1 : Nat) : Int) by omega, h.read (by omega), if_neg (by simp)]
end Go.AM
namespace Go.AM
theorem Ev.mkMap {P : Program} {R : Type} {t : TypeId} {B0 H0 B H : AH} {L : List (Nat × Blk)} {f : Nat → Nat → Value → AH → Option R} {Q : R → Prop} (hS : St H0 B0 B L H)
    (h : ∀ b H', St H0 B0 B ((b, ⟨[], t, .map⟩) :: L) H' → Ev (fun k n => f k n (.map (some b)) H') Q) : Ev (fun k n => Go.AM.b2 (mkM t H) (f k n)) Q :=
  Ev.prim2 rfl (h H.length _ (hS.mkB' [] t .map))
end Go.AM
namespace Go.AM
def insI (S : List Int) (x : Int) : List Int := if x ∈ S then S else S ++ [x]
def entI : List Int → List Value
  | [] => []
  | k :: r => .int .i64 k :: .bool true :: entI r
theorem entI_len : ∀ S, (entI S).length = 2 * S.length
  | [] => rfl
  | k :: r => by simp only [entI, List.length_cons, entI_len r]; omega
theorem entI_snoc : ∀ (S : List Int) (x : Int), entI (S ++ [x]) = entI S ++ [.int .i64 x, .bool true]
  | [], x => rfl
  | k :: r, x => by simp only [List.cons_append, entI, entI_snoc r]
theorem keyAt_entI : ∀ (S : List Int) (x : Int), (x ∉ S ∧ keyAt (.int .i64) (.int .i64 x) (entI S) = some none) ∨ (x ∈ S ∧ ∃ i, keyAt (.int .i64) (.int .i64 x) (entI S) = some (some i) ∧ (entI S)[i + 1]? = some (.bool true))
  | [], x => .inl ⟨by simp, rfl⟩
  | k :: r, x => by
    have e : keyAt (.int .i64) (.int .i64 x) (entI (k :: r)) = (keyAt (.int .i64) (.int .i64 x) (entI r)).map fun o => bif decide (x = k) then some 0 else o.map (· + 2) := rfl
    by_cases h : x = k
    · right
      refine ⟨by rw [h]; exact .head _, 0, ?_, rfl⟩
      rw [e, decide_eq_true h]
      rcases keyAt_entI r x with ⟨_, h2⟩ | ⟨_, i, h2, _⟩ <;> rw [h2] <;> rfl
    · rw [decide_eq_false h] at e
      rcases keyAt_entI r x with ⟨h1, h2⟩ | ⟨h1, i, h2, h3⟩
      · left
        refine ⟨by simp [h, h1], ?_⟩
        rw [e, h2]; rfl
      · right
        refine ⟨.tail _ h1, i + 2, ?_, h3⟩
        rw [e, h2]; rfl
section
variable {P : Program} {R : Type} {t kt et : TypeId} {B0 H0 B H : AH} {L L' : List (Nat × Blk)} {b : Nat} {S : List Int} {x : Int}
theorem Ev.mpTrueI {f : Nat → Nat → AH → Option R} {Q : R → Prop}
    (hU : P.underlying t = some (.map kt et)) (hK : P.underlying kt = some (.int .i64)) (hS : St H0 B0 B L H) (hu : Upd b ⟨entI S, t, .map⟩ ⟨entI (insI S x), t, .map⟩ L L') (hm : (b, ⟨entI S, t, .map⟩) ∈ L)
    (h : ∀ H', St H0 B0 B L' H' → Ev (fun k n => f k n H') Q) : Ev (fun k n => (mpU P t H (.map (some b)) (.int .i64 x) (.bool true)).bind (f k n)) Q := by
  have hb := hS.get hm
  have e : mpU P t H (.map (some b)) (.int .i64 x) (.bool true) = (keyAt (.int .i64) (.int .i64 x) (entI S)).map fun o => match o with
        | some i => put H b ⟨entI S, t, .map⟩ ((entI S).set (i + 1) (.bool true))
        | none => put H b ⟨entI S, t, .map⟩ (entI S ++ [.int .i64 x, .bool true]) := by
    unfold mpU mapB
    rw [hU]
    dsimp only
    rw [hK, Option.bind_some, hb, Option.bind_some, if_pos rfl, Option.bind_some, if_pos ⟨rfl, rfl⟩]
    rfl
  rcases keyAt_entI S x with ⟨h1, h2⟩ | ⟨h1, i, h2, h3⟩
  · rw [h2] at e
    refine Ev.prim e (h _ ?_)
    have e2 : insI S x = S ++ [x] := if_neg h1
    rw [e2, entI_snoc] at hu
    exact hS.put (cs := entI S ++ [.int .i64 x, .bool true]) hu
  · rw [h2] at e
    refine Ev.prim e (h _ ?_)
    have e1 : insI S x = S := if_pos h1
    rw [e1] at hu
    have e2 : (entI S).set (i + 1) (.bool true) = entI S := by
      apply List.ext_getElem?
      intro j
      rw [List.getElem?_set]
      split
      · rename_i hj
        subst hj
        rw [h3]
        have := (List.getElem?_eq_some_iff.1 h3).1
        rw [if_pos this]
      · rfl
    show St H0 B0 B _ (put H b ⟨entI S, t, .map⟩ ((entI S).set (i + 1) (.bool true)))
    rw [e2]
    exact hS.put (cs := entI S) hu
theorem lkI (hU : P.underlying t = some (.map kt et)) (hK : P.underlying kt = some (.int .i64)) (hz : zeroT P et = some (.bool false)) (hS : St H0 B0 B L H) (hm : (b, ⟨entI S, t, .map⟩) ∈ L) :
    lkU P t H (.map (some b)) (.int .i64 x) false = some (.bool (decide (x ∈ S))) := by
  unfold lkU mapCells mapB
  rw [hU]
  dsimp only
  rw [hK, Option.bind_some, hS.get hm, Option.bind_some, if_pos rfl, Option.map_some, Option.bind_some, if_pos (show keyOK (.int .i64) (.int .i64 x) = true from rfl)]
  dsimp only
  rcases keyAt_entI S x with ⟨h1, h2⟩ | ⟨h1, i, h2, h3⟩
  · rw [h2, Option.bind_some]
    dsimp only
    rw [hz, Option.map_some, decide_eq_false h1]; rfl
  · rw [h2, Option.bind_some]
    dsimp only
    rw [h3, Option.map_some, decide_eq_true h1]; rfl
end
theorem insI_mem {S : List Int} {x y : Int} : y ∈ insI S x ↔ y = x ∨ y ∈ S := by
  unfold insI
  split
  · rename_i h
    exact ⟨.inr, fun h2 => h2.elim (fun e => e ▸ h) id⟩
  · simp [or_comm]
def bm : List Int → Nat → Nat
  | [], _ => 0
  | n :: S, j => bm S j ||| (if n.toNat / 8 = j then 2 ^ (n.toNat % 8) else 0)
theorem bm_cons (n : Int) (S : List Int) (j : Nat) : bm (n :: S) j = bm S j ||| (if n.toNat / 8 = j then 2 ^ (n.toNat % 8) else 0) := rfl
theorem bm_bit : ∀ (S : List Int) (j t : Nat), (bm S j).testBit t = decide (∃ n ∈ S, n.toNat / 8 = j ∧ n.toNat % 8 = t)
  | [], j, t => by simp [bm]
  | n :: S, j, t => by
    unfold bm
    rw [Nat.testBit_or, bm_bit S j t]
    by_cases h : n.toNat / 8 = j
    · rw [if_pos h, Nat.testBit_two_pow]
      simp [h]
      by_cases h2 : n.toNat % 8 = t <;> simp [h2]
    · rw [if_neg h]
      simp [h]
theorem bm_lt : ∀ (S : List Int) (j : Nat), bm S j < 256
  | [], j => by simp [bm]
  | n :: S, j => by
    unfold bm
    refine Nat.or_lt_two_pow (n := 8) (bm_lt S j) ?_
    split
    · have h8 := Nat.mod_lt n.toNat (show 0 < 8 by decide)
      exact Nat.pow_lt_pow_right (by decide) h8
    · decide
theorem bm_congr {S T : List Int} (h : ∀ n, n ∈ S ↔ n ∈ T) (j : Nat) : bm S j = bm T j := by
  apply Nat.eq_of_testBit_eq
  intro t
  rw [bm_bit, bm_bit]
  simp only [h]
def bmL (S : List Int) : List UInt8 := (List.range 64).map fun j => UInt8.ofNat (bm S j)
def bmV (S : List Int) : List Value := (List.range 64).map fun j => .int .u8 (bm S j : Int)
theorem bmV_nil : bmV [] = List.replicate 64 (.int .u8 0) := by rfl
theorem bmV_congr {S T : List Int} (h : ∀ n, n ∈ S ↔ n ∈ T) : bmV S = bmV T := by
  unfold bmV
  apply List.map_congr_left
  intro j _
  rw [bm_congr h]
theorem bmV_len (S : List Int) : (bmV S).length = 64 := by unfold bmV; simp
theorem bmV_at (S : List Int) {j : Nat} (h : j < 64) : (bmV S)[j]? = some (.int .u8 (bm S j : Int)) := by
  unfold bmV
  rw [List.getElem?_map, List.getElem?_range h]; rfl
theorem bmV_cons {n : Int} {S : List Int} (h : n.toNat / 8 < 64) : bmV (n :: S) = (bmV S).set (n.toNat / 8) (.int .u8 ((bm S (n.toNat / 8) ||| 2 ^ (n.toNat % 8) : Nat) : Int)) := by
  apply List.ext_getElem?
  intro j
  rw [List.getElem?_set]
  by_cases hj : j < 64
  · rw [bmV_at _ hj]
    by_cases he : n.toNat / 8 = j
    · subst he
      rw [if_pos rfl, if_pos (by rw [bmV_len]; exact h), bm_cons, if_pos rfl]
    · rw [if_neg he, bmV_at _ hj, bm_cons, if_neg he, Nat.or_zero]
  · rw [List.getElem?_eq_none (by rw [bmV_len]; omega), if_neg (by omega), List.getElem?_eq_none (by rw [bmV_len]; omega)]
theorem bmV_byts (S : List Int) : bmV S = byts (bmL S) := by
  unfold bmV byts bmL
  rw [List.map_map, List.map_map]
  apply List.map_congr_left
  intro j _
  have := bm_lt S j
  show _ = Value.int .u8 ((UInt8.ofNat (bm S j)).toNat : Int)
  rw [UInt8.toNat_ofNat_of_lt' this]
def keysI : List Value → Option (List Int)
  | [] => some []
  | .int .i64 n :: .bool true :: r => (keysI r).map fun l => n :: l
  | _ => none
theorem keysI_ent : ∀ S, keysI (entI S) = some S
  | [] => rfl
  | n :: S => by unfold entI keysI; rw [keysI_ent S]; rfl
theorem ent_keysI : ∀ {cs : List Value} {S : List Int}, keysI cs = some S → cs = entI S := by
  intro cs
  fun_induction keysI cs with
  | case1 => intro S h; cases h; rfl
  | case2 n r ih =>
    intro S h
    cases hr : keysI r with
    | none => rw [hr] at h; cases h
    | some l => rw [hr] at h; cases h; rw [ih hr]; rfl
  | case3 => intro S h; cases h
noncomputable def gBits (args : List Value) (H : AH) : Option AH :=
  match args with
  | [.map (some mb), .slice (some ⟨b, 0, none⟩) 72 72] =>
    (mapB H mb).bind fun km => (keysI km.cells).bind fun S => (blk H b).bind fun k =>
      aChk (mb ≠ b ∧ (∀ n ∈ S, 0 ≤ n ∧ n < 512) ∧ k.kind = .fix ∧ k.cells.length = 72 ∧ k.cells.drop 8 = List.replicate 64 (.int .u8 0)) (some (put H b k (k.cells.take 8 ++ bmV S)))
  | _ => none
def turnB (t : Nat) : List UInt8 := (List.range 6).map fun i => UInt8.ofNat (t / 256 ^ (5 - i))
def textH (t : Nat) (root : Int) (U : List Int) : List UInt8 := turnB t ++ ([UInt8.ofNat (root.toNat / 256), UInt8.ofNat root.toNat] ++ bmL U)
theorem textH_len (t : Nat) (root : Int) (U : List Int) : (textH t root U).length = 72 := by unfold textH turnB bmL; simp
end Go.AM
namespace Go.AM
open Go.RowKit
theorem ents_entI {m : Mp} : ∀ (S : List Int) (es : List MapEntry), LRel m (entI S) (ents es) → es.map (fun e => (e.key, e.val)) = S.map fun n => (Value.int .i64 n, Value.bool true)
  | [], [], _ => rfl
  | [], e :: es, h => by have := h.1; simp [entI, ents] at this
  | n :: S, [], h => by have := h.1; simp [entI, ents] at this
  | n :: S, e :: es, h => by
    have h0 : LRel m (.int .i64 n :: .bool true :: entI S) (e.key :: e.val :: ents es) := h
    obtain ⟨y, zs, e1, h1, h2⟩ := h0.cons_inv
    cases e1
    obtain ⟨y, zs, e1, h3, h4⟩ := h2.cons_inv
    cases e1
    rw [List.map_cons, List.map_cons, ents_entI S es h4, h1.flat_inv rfl, h3.flat_inv rfl]
theorem cons_range {α : Type} {a : Array α} {x : α} {l : List α} (h : a.toList = x :: l) : List.range a.size = 0 :: (List.range' 1 l.length ++ []) ∧ a[0]? = some x ∧ ∀ j y, l[j]? = some y → a[1 + j]? = some y := by
  have hs : a.size = l.length + 1 := by rw [← Array.length_toList, h]; rfl
  refine ⟨by rw [hs, List.append_nil, List.range_eq_range', List.range'_succ], by rw [← Array.getElem?_toList, h]; rfl, fun j y hj => ?_⟩
  rw [← Array.getElem?_toList, h, Nat.add_comm]
  exact hj
theorem oper_val {P : Program} {r : Option Nat} {n : Nat} {o : Oper} {a : Act} {w w' : World} {v : Value} {d : Option Tmp} {next : Act → World → Prop} {Q : Exit → Act → World → Prop} (hd : ∀ c, o.op ≠ .defer c) (hr : (execOp a.eval o).run P w = .ok (.value v) w') (e : o.dst = d) (h : next (a.put d v) w') : o.wpIn (FW r) n P a w next Q := oper_in hd (by
  unfold Oper.wp
  rw [hr]
  subst e
  exact h)
theorem range_sim {P : Program} {call : CallF} (hcall : CallOK P call) (hdraw : DrawOK P call) (hmix : P.follows .mixedOrders = true) (n0 : Nat) (tb : Tbl)
    {idR B id5 C id6 : Nat} {opsR ops5 ops6 : Array Oper} {pre r5 r6 : List Oper} {oR oN oE : Oper} {body : Code} {tm kt et : TypeId} {mp it nx en ok : Tmp}
    (hR : opsR.toList = pre ++ [oR]) (hpre : ∀ o ∈ pre, o.guard = none) (hoR : oR.op = .range tm (.tmp mp) ∧ oR.dst = some it ∧ oR.guard = none)
    (h5 : ops5.toList = oN :: r5) (hr5 : ∀ o ∈ r5, o.guard = none) (hoN : oN.op = .next (.tmp it) false ∧ oN.dst = some nx ∧ oN.guard = none)
    (h6 : ops6.toList = oE :: r6) (hr6 : ∀ o ∈ r6, o.guard = none) (hoE : oE.op = .entry (.tmp it) ∧ oE.dst = some en ∧ oE.guard = none)
    (hUt : P.underlying tm = some (.map kt et)) (hbody : rgs body = [])
    {T T1 Tk TM T5f : List Value} {H H' : AH} {a : Nat} {km : Blk} {S0 : List Int} {keep keepM : List Nat} {T5 T6 : Int → List Value}
    (hp : evOps P call opsR pre T H (fun T H => some (T, H)) = some (T1, H)) (hmp : T1.getD mp undef = .map (some a)) (ha : blk H a = some km) (hak : km.kind = .map) (hac : km.cells = entI S0)
    (hTk : maskT keep 0 (T1.set it (ptr H.length 0)) = Tk) (hit : Tk.getD it undef = ptr H.length 0)
    (e5 : ∀ n Hs, evOps P call ops5 r5 (Tk.set nx (.tuple #[.bool true, .int .i64 n, .bool true])) Hs (fun T H => some (T, H)) = some (T5 n, Hs))
    (e5c : ∀ n, (T5 n).getD ok undef = .bool true) (e5i : ∀ n, (T5 n).getD it undef = ptr H.length 0)
    (e6 : ∀ n Hs, evOps P call ops6 r6 ((T5 n).set en (.tuple #[.int .i64 n, .bool true])) Hs (fun T H => some (T, H)) = some (T6 n, Hs))
    (e5f : ∀ Hs, evOps P call ops5 r5 (Tk.set nx (.tuple #[.bool false])) Hs (fun T H => some (T, H)) = some (T5f, Hs)) (e5fc : T5f.getD ok undef = .bool false) (hTM : maskT keepM 0 T5f = TM)
    (Inv : List Int → AH → Prop) (inv0 : Inv [] (kill H a ++ [none])) (ilen : ∀ S Hs, Inv S Hs → blk Hs a = none)
    (step : ∀ S n Hs, Inv S Hs → n ∈ S0 → n ∉ S → ∃ Tb Hb, evalK P call n0 tb body (T6 n) Hs (fun e T H => some (e, T, H)) = some (EX.normal, Tb, Hb) ∧ maskT keep 0 Tb = Tk ∧ Inv (n :: S) Hb)
    (fin : ∀ S Hs, Inv S Hs → S.Nodup → (∀ n, n ∈ S ↔ n ∈ S0) → H'.length = Hs.length ∧ (∀ b k', blk H' b = some k' → ∃ k, blk (Hs.set a (some km)) b = some k ∧ k.kind = k'.kind) ∧ ∀ B0 w0 m w, Rel P B0 w0 m (Hs.set a (some km)) w → Rel P B0 w0 m H' w) :
    CodeSim P none (.seq (.region idR opsR false) (.block B (.loop (.seq (.region id5 ops5 false) (.seq (.cond (.tmp ok) .skip (.exit B)) (.block C (.seq (.region id6 ops6 false) body))))))) T H .normal TM H' := by
  intro n Bf B0 w0 m act w Q R0 hT hd hB hq
  obtain ⟨c5a, c5b, c5c⟩ := cons_range h5
  obtain ⟨c6a, c6b, c6c⟩ := cons_range h6
  have mk : ∀ (keep : List Nat) (m : Mp) (T Ts : List Value), LRel m T Ts → LRel m (maskT keep 0 T) Ts := fun keep m T Ts h => by
    have := cutT_rel [(0, keep)] 0 h
    exact this
  refine wpIn_seq (wpIn_region ?_)
  have hsz : opsR.size = pre.length + 1 := by rw [← Array.length_toList, hR]; simp
  have hrg : List.range opsR.size = List.range' 0 pre.length ++ [pre.length] := by
    rw [hsz, List.range_succ, List.range_eq_range']
  have hat : ∀ j o, pre[j]? = some o → opsR[0 + j]? = some o ∧ o.guard = none := fun j o hj => by
    refine ⟨?_, hpre o (List.mem_of_getElem? hj)⟩
    rw [← Array.getElem?_toList, hR, Nat.zero_add, List.getElem?_append_left (List.getElem?_eq_some_iff.1 hj).1]
    exact hj
  have hlast : opsR[pre.length]? = some oR := by rw [← Array.getElem?_toList, hR]; simp
  rw [hrg]
  refine evOps_pre hcall none opsR pre 0 T H T1 H hat hp n B0 w0 m act w act.defers [pre.length] _ R0 hT rfl fun m1 a1 w1 A => ?_
  have hd1 : Marks Bf a1.defers m1 H w1 := by rw [A.defers]; exact hd.ext R0 A.ext
  have hsz1 : Bf ≤ w1.heap.size := Nat.le_trans hB A.ext.size
  have hmv := opv_rel A.tmps (.tmp mp)
  have hmv2 : VRel m1 (.map (some a)) (a1.eval (.tmp mp)) := by
    have : opv T1 (.tmp mp) = .map (some a) := hmp
    rwa [this] at hmv
  obtain ⟨L, hm, he, hLk⟩ := hmv2.map_inv
  have hBR := A.rel.blks a L km hm ha
  obtain ⟨es, clock, es0, hw, hpm, hnd, ⟨hbn, hbd⟩, hl⟩ := hBR.mp hak
  rw [hac] at hl
  have hents := ents_entI S0 es0 hl
  have hent : ∀ e ∈ es.toList, ∃ n ∈ S0, e.key = .int .i64 n ∧ e.val = .bool true := by
    intro e he
    have h1 : (e.key, e.val) ∈ es0.map fun e => (e.key, e.val) := List.mem_map.2 ⟨e, hpm.mem_iff.1 he, rfl⟩
    rw [hents] at h1
    obtain ⟨n, hn, h2⟩ := List.mem_map.1 h1
    obtain ⟨h3, h4⟩ := Prod.mk.inj h2
    exact ⟨n, hn, h3.symm, h4.symm⟩
  have hback : ∀ n ∈ S0, ∃ e ∈ es.toList, e.key = .int .i64 n := by
    intro n hn
    have h1 : (Value.int .i64 n, Value.bool true) ∈ S0.map fun n => (Value.int .i64 n, Value.bool true) := List.mem_map.2 ⟨n, hn, rfl⟩
    rw [← hents] at h1
    obtain ⟨e, he, h2⟩ := List.mem_map.1 h1
    exact ⟨e, hpm.mem_iff.2 he, (congrArg Prod.fst h2)⟩
  have hbd' : (es.toList.map (·.born)).Nodup := (hpm.map _).nodup_iff.2 hbd
  have hbn' : ∀ x ∈ es.toList, x.born < clock := fun x hx => hbn x (hpm.mem_iff.1 hx)
  have hLlt : L.blk < w1.heap.size := (A.rel.dom a L hm).2
  have hane : km.kind ≠ .ro := by rw [hak]; decide
  -- the start
  simp only [wpOpsIn, hlast]
  rw [if_pos (by unfold Region.wanted; rw [hoR.2.2])]
  have hrun : (execOp a1.eval oR).run P w1 = .ok (.value (.pointer (some ⟨w1.heap.size, 0, none⟩))) (w1.alloc (.mapIter (some L.blk) clock #[] clock)) := by
    have := run_range_map (P := P) w1 tm kt et L.blk es clock hUt hw
    obtain ⟨dst, op, ty, ps, af, g⟩ := oR
    obtain ⟨rfl, _, _⟩ := hoR
    simp only [execOp, he, Sem.run_bind, this, Result.andThen_ok, Sem.run_pure]
  refine oper_val (isDefer_no (by rw [hoR.1]; rfl)) hrun rfl ?_
  obtain ⟨Rk, Ek⟩ := A.rel.killed a
  obtain ⟨R2, E2⟩ := Rk.mkDead (.mapIter (some L.blk) clock #[] clock) .fix
  rw [length_kill'] at R2 E2
  have hm2 : ∀ b L, m1 b = some L → upd m1 H.length ⟨w1.heap.size, 0, .fix, 0, 0⟩ b = some L := E2.mono
  have hT2 : LRel (upd m1 H.length ⟨w1.heap.size, 0, .fix, 0, 0⟩) Tk (a1.put oR.dst (.pointer (some ⟨w1.heap.size, 0, none⟩))).tmps.toList := by
    rw [hoR.2.1, ← hTk]
    refine mk _ _ _ _ ?_
    exact put_rel (A.tmps.mono hm2) (some it) (.ptr H.length 0 ⟨w1.heap.size, 0, .fix, 0, 0⟩ (upd_same _ _ _) rfl)
  have fL : Free (upd m1 H.length ⟨w1.heap.size, 0, .fix, 0, 0⟩) (kill H a ++ [none]) L.blk := by
    have f0 : Free m1 (kill H a) L.blk := by
      intro b L2 k2 h1 h2
      by_cases hb : a = b
      · subst hb; rw [blk_kill_same] at h2; cases h2
      · rw [blk_kill_ne hb] at h2
        exact fun e => A.rel.inj a b L L2 km k2 hm h1 ha h2 hane hb e.symm
    exact f0.ext Rk E2 hLlt
  have fr : Free (upd m1 H.length ⟨w1.heap.size, 0, .fix, 0, 0⟩) (kill H a ++ [none]) w1.heap.size := by
    intro b L2 k2 h1 h2
    have hlt := blk_lt' h2
    unfold upd at h1
    split at h1
    · rename_i hb
      subst hb
      unfold blk at h2
      rw [List.getElem?_append_right (by rw [length_kill']; exact Nat.le_refl _), length_kill', Nat.sub_self] at h2
      cases h2
    · have := (Rk.dom b L2 h1).2
      omega
  have hw2 : (w1.alloc (.mapIter (some L.blk) clock #[] clock)).heap[L.blk]? = some (.map es clock) := by rw [Below.heap_alloc w1 _ _ hLlt]; exact hw
  have hr2 : (w1.alloc (.mapIter (some L.blk) clock #[] clock)).heap[w1.heap.size]? = some (.mapIter (some L.blk) clock #[] clock) := heap_alloc_new w1 _
  have hmk2 : Marks Bf (a1.put oR.dst (.pointer (some ⟨w1.heap.size, 0, none⟩))).defers (upd m1 H.length ⟨w1.heap.size, 0, .fix, 0, 0⟩) (kill H a ++ [none]) (w1.alloc (.mapIter (some L.blk) clock #[] clock)) := by
    rw [put_defers]
    exact (hd1.ext A.rel Ek).ext Rk E2
  have hmi : (upd m1 H.length ⟨w1.heap.size, 0, .fix, 0, 0⟩) H.length = some ⟨w1.heap.size, 0, .fix, 0, 0⟩ := upd_same _ _ _
  generalize hmm : upd m1 H.length ⟨w1.heap.size, 0, .fix, 0, 0⟩ = m2 at *
  generalize hww : w1.alloc (.mapIter (some L.blk) clock #[] clock) = w2 at *
  generalize haa : a1.put oR.dst (.pointer (some ⟨w1.heap.size, 0, none⟩)) = a2 at *
  generalize hHH : kill H a ++ [none] = H2 at *
  show Code.wpIn _ _ _ _ _ _ _
  refine wpIn_block ?_
  -- the rounds
  have key : ∀ (q : Nat) (S : List Int) (Hs : AH) (m3 : Mp) (a3 : Act) (w3 : World) (seen : Array Nat), Inv S Hs → S.Nodup → (∀ n ∈ S, n ∈ S0) → (∀ e ∈ es.toList, seen.contains e.born = true ↔ ∃ n ∈ S, e.key = .int .i64 n) → (leftOf es seen).size < q →
      Ext m1 (kill H a) w1 m3 Hs w3 → Rel P B0 w0 m3 Hs w3 → LRel m3 Tk a3.tmps.toList → Marks Bf a3.defers m3 Hs w3 → Free m3 Hs L.blk → Free m3 Hs w1.heap.size → w3.heap[L.blk]? = some (.map es clock) → w3.heap[w1.heap.size]? = some (.mapIter (some L.blk) clock seen clock) → m3 H.length = some ⟨w1.heap.size, 0, .fix, 0, 0⟩ →
      Code.roundsIn (FW none) n P (.seq (.region id5 ops5 false) (.seq (.cond (.tmp ok) .skip (.exit B)) (.block C (.seq (.region id6 ops6 false) body)))) (Exit.inBlock B Q) q a3 w3 := by
    intro q
    induction q with
    | zero => intro S Hs m3 a3 w3 seen _ _ _ _ hlt; omega
    | succ q ih =>
      intro S Hs m3 a3 w3 seen hI hSn hS0 hseen hlt E3 R3 hT3 hd3 fL3 fr3 hw3 hr3 hmi3
      have hrlt : w1.heap.size < w3.heap.size := (Array.getElem?_eq_some_iff.1 hr3).1
      have iter : ∀ (T : List Value) (a : Act), LRel m3 T a.tmps.toList → T.getD it undef = ptr H.length 0 → a.eval (.tmp it) = .pointer (some ⟨w1.heap.size, 0, none⟩) := by
        intro T a hT hit
        have := opv_rel hT (.tmp it)
        rw [show opv T (.tmp it) = ptr H.length 0 from hit] at this
        obtain ⟨L', h1, h2, _⟩ := this.ptr_inv
        rw [hmi3] at h1
        cases h1
        exact h2
      rw [roundsIn_succ]
      refine wpIn_seq (wpIn_region ?_)
      rw [c5a]
      simp only [wpOpsIn, c5b]
      rw [if_pos (by unfold Region.wanted; rw [hoN.2.2])]
      have hexec : ∀ v w', (Instr.next (.pointer (some ⟨w1.heap.size, 0, none⟩)) false oN.type).run P w3 = .ok v w' → (execOp a3.eval oN).run P w3 = .ok (.value v) w' := by
        intro v w' hh
        have h1 := iter Tk a3 hT3 hit
        obtain ⟨dst, op, ty, ps, af, g⟩ := oN
        obtain ⟨rfl, _, _⟩ := hoN
        simp only at hh
        simp only [execOp, h1, Sem.run_bind, hh, Result.andThen_ok, Sem.run_pure]
      rcases run_next_at (P := P) w3 oN.type w1.heap.size L.blk clock clock seen es clock hr3 hw3 hbn' (Nat.le_refl _) with ⟨h0, hrun⟩ | ⟨e, heL, w4, hw4, hrun⟩
      · refine oper_val (isDefer_no (by rw [hoN.1]; rfl)) (hexec _ _ hrun) hoN.2.1 ?_
        refine evOps_pre hcall none ops5 r5 1 _ Hs T5f Hs (fun j o hj => ⟨c5c j o hj, hr5 o (List.mem_of_getElem? hj)⟩) (e5f Hs) n B0 w0 m3 _ w3 a3.defers [] _ R3 (put_rel hT3 (some nx) (.tuple _ _ rfl fun i x y hx hy => by
          rw [hx] at hy; cases hy
          have := Array.mem_of_getElem? hx
          simp at this; subst this; exact .flat _ rfl)) (put_defers _ _ _) fun m5 a5 w5 A5 => ?_
        simp only [wpOpsIn]
        have hc := opv_rel A5.tmps (.tmp ok)
        rw [show opv T5f (.tmp ok) = .bool false from e5fc] at hc
        refine wpIn_seq (wpIn_cond_false hc.bool_inv (wpIn_exit ?_))
        show (if B = B then Q .normal a5 w5 else Q (.exit B) a5 w5)
        rw [if_pos rfl]
        have hall : ∀ n, n ∈ S ↔ n ∈ S0 := fun n => ⟨hS0 n, fun hn => by
          obtain ⟨e, he, hk⟩ := hback n hn
          obtain ⟨n2, hn2, hk2⟩ := (hseen e he).1 (all_seen es seen h0 e he)
          rw [hk] at hk2
          cases hk2
          exact hn2⟩
        obtain ⟨f1, f2, f3⟩ := fin S Hs hI hSn hall
        have hlt5 : L.blk < w3.heap.size := (Array.getElem?_eq_some_iff.1 hw3).1
        have hw5 : w5.heap[L.blk]? = some (.map es clock) := (fL3.frame A5.ext hlt5).trans hw3
        have fL5 := fL3.ext R3 A5.ext hlt5
        have E5 := Ext.trans (fun b L hb => (Rk.dom b L hb).1) E3 A5.ext
        have hm5 : m5 a = some L := E5.mono _ _ hm
        have hBR5 : BRel P B0 m5 L km w5 := hBR.at E5.mono (hw5.trans hw.symm)
        have hlt6 : a < Hs.length := Nat.lt_of_lt_of_le (by rw [length_kill']; exact blk_lt' ha) E3.len
        have R6 := f3 B0 w0 m5 w5 (A5.rel.unkill hm5 hlt6 hBR5 fL5)
        have E6 : Ext m1 H w1 m5 H' w5 := by
          refine ⟨E5.mono, by rw [f1]; have := E3.len; rwa [length_kill'] at this, E5.size, ?_, ?_, ?_⟩
          · intro b k' hb hk'
            obtain ⟨k, h1, h2⟩ := f2 b k' hk'
            by_cases hab : a = b
            · subst hab
              rw [blk_set_same hlt6] at h1
              cases h1
              exact ⟨km, ha, h2⟩
            · rw [blk_set_ne hab] at h1
              obtain ⟨k0, h3, h4⟩ := E5.alive b k (by rw [length_kill']; exact hb) h1
              rw [blk_kill_ne hab] at h3
              exact ⟨k0, h3, h4.trans h2⟩
          · intro b L2 hb
            rcases E5.new b L2 hb with h1 | ⟨h1, h2 | ⟨b0, L0, k0, h3, h4, h5, h6⟩⟩
            · exact .inl h1
            · exact .inr ⟨by rwa [length_kill'] at h1, .inl h2⟩
            · refine .inr ⟨by rwa [length_kill'] at h1, .inr ⟨b0, L0, k0, h3, ?_, h5, h6⟩⟩
              by_cases hab : a = b0
              · subst hab; rw [blk_kill_same] at h4; cases h4
              · rwa [blk_kill_ne hab] at h4
          · intro B' hB' hf
            refine E5.frame B' hB' fun b L2 k2 h1 h2 h3 => ?_
            by_cases hab : a = b
            · subst hab; rw [blk_kill_same] at h2; cases h2
            · rw [blk_kill_ne hab] at h2
              exact hf b L2 k2 h1 h2 h3
        refine hq m5 a5 w5 ⟨Ext.trans (fun b L hb => (R0.dom b L hb).1) A.ext E6, R6, by rw [← hTM]; exact mk _ _ _ _ A5.tmps, ?_⟩
        have hd5 : Marks Bf a5.defers m5 Hs w5 := by rw [A5.defers]; exact hd3.ext R3 A5.ext
        obtain ⟨Ds, d1, d2, d3⟩ := hd5
        refine ⟨Ds, d1, d2, fun D hD => ?_⟩
        obtain ⟨d4, d5, d6⟩ := d3 D hD
        refine ⟨d4, d5, fun b L2 k2 h1 h2 h3 => ?_⟩
        obtain ⟨k, h4, h5⟩ := f2 b k2 h2
        by_cases hab : a = b
        · subst hab
          rw [hm5] at h1
          cases h1
          rintro rfl
          rw [hw5] at d5
          cases d5
        · rw [blk_set_ne hab] at h4
          exact d6 b L2 k h1 h4 (by rw [h5]; exact h3)
      · obtain ⟨hees, hens⟩ := mem_left heL
        obtain ⟨n1, hn1, hk1, hv1⟩ := hent e hees
        have hnS : n1 ∉ S := fun h => by rw [(hseen e hees).2 ⟨n1, h, hk1⟩] at hens; cases hens
        rw [hk1, hv1] at hrun
        have R4 : Rel P B0 w0 m3 Hs (w4.putObj w1.heap.size (.mapIter (some L.blk) clock (seen.push e.born) clock)) := by
          rcases hw4 with rfl | rfl
          · exact R3.putFree _ A.rel.hB fr3
          · exact R3.drew.putFree _ A.rel.hB fr3
        have E4 : Ext m1 (kill H a) w1 m3 Hs (w4.putObj w1.heap.size (.mapIter (some L.blk) clock (seen.push e.born) clock)) := by
          rcases hw4 with rfl | rfl
          · exact E3.putIter (Nat.le_refl _)
          · exact E3.drew.putIter (Nat.le_refl _)
        have hd4 : Marks Bf a3.defers m3 Hs (w4.putObj w1.heap.size (.mapIter (some L.blk) clock (seen.push e.born) clock)) := by
          rcases hw4 with rfl | rfl
          · exact hd3.putIter fun l => by rw [hr3]; intro h; cases h
          · exact hd3.drew.putIter fun l => by show w3.heap[_]? ≠ _; rw [hr3]; intro h; cases h
        have hheap : w4.heap = w3.heap := by rcases hw4 with rfl | rfl <;> rfl
        have hsz4 : (w4.putObj w1.heap.size (.mapIter (some L.blk) clock (seen.push e.born) clock)).heap.size = w3.heap.size := by rw [World.putObj_size, hheap]
        have hr4 : (w4.putObj w1.heap.size (.mapIter (some L.blk) clock (seen.push e.born) clock)).heap[w1.heap.size]? = some (.mapIter (some L.blk) clock (seen.push e.born) clock) := World.putObj_heap_same (by rw [hheap]; exact hrlt)
        have hw4' : (w4.putObj w1.heap.size (.mapIter (some L.blk) clock (seen.push e.born) clock)).heap[L.blk]? = some (.map es clock) := by
          rw [World.putObj_heap_other (by omega), hheap]; exact hw3
        generalize w4.putObj w1.heap.size (.mapIter (some L.blk) clock (seen.push e.born) clock) = w4 at hrun R4 E4 hd4 hsz4 hr4 hw4'
        refine oper_val (isDefer_no (by rw [hoN.1]; rfl)) (hexec _ _ hrun) hoN.2.1 ?_
        refine evOps_pre hcall none ops5 r5 1 _ Hs (T5 n1) Hs (fun j o hj => ⟨c5c j o hj, hr5 o (List.mem_of_getElem? hj)⟩) (e5 n1 Hs) n B0 w0 m3 _ w4 a3.defers [] _ R4 (put_rel hT3 (some nx) (.tuple _ _ rfl fun i x y hx hy => by
          rw [hx] at hy; cases hy
          have := Array.mem_of_getElem? hx
          simp at this
          rcases this with rfl | rfl | rfl <;> exact .flat _ rfl)) (put_defers _ _ _) fun m5 a5 w5 A5 => ?_
        simp only [wpOpsIn]
        have hc := opv_rel A5.tmps (.tmp ok)
        rw [show opv (T5 n1) (.tmp ok) = .bool true from e5c n1] at hc
        refine wpIn_seq (wpIn_cond_true hc.bool_inv (wpIn_skip ?_))
        show Code.wpIn _ _ _ _ _ _ _
        refine wpIn_block (wpIn_seq (wpIn_region ?_))
        rw [c6a]
        simp only [wpOpsIn, c6b]
        rw [if_pos (by unfold Region.wanted; rw [hoE.2.2])]
        have E5 := Ext.trans (fun b L hb => (Rk.dom b L hb).1) E4 A5.ext
        have hlt4 : L.blk < w4.heap.size := (Array.getElem?_eq_some_iff.1 hw4').1
        have hrlt4 : w1.heap.size < w4.heap.size := by rw [hsz4]; exact hrlt
        have hw5 : w5.heap[L.blk]? = some (.map es clock) := (fL3.frame A5.ext hlt4).trans hw4'
        have hr5' : w5.heap[w1.heap.size]? = some (.mapIter (some L.blk) clock (seen.push e.born) clock) := (fr3.frame A5.ext hrlt4).trans hr4
        have fL5 := fL3.ext R4 A5.ext hlt4
        have fr5 := fr3.ext R4 A5.ext hrlt4
        have hd5 : Marks Bf a5.defers m5 Hs w5 := by rw [A5.defers]; exact hd4.ext R4 A5.ext
        have hmi5 := A5.ext.mono _ _ hmi3
        have hit5 : a5.eval (.tmp it) = .pointer (some ⟨w1.heap.size, 0, none⟩) := by
          have := opv_rel A5.tmps (.tmp it)
          rw [show opv (T5 n1) (.tmp it) = ptr H.length 0 from e5i n1] at this
          obtain ⟨L', h1, h2, _⟩ := this.ptr_inv
          rw [hmi5] at h1
          cases h1
          exact h2
        have hrun6 : (execOp a5.eval oE).run P w5 = .ok (.value (.tuple #[.int .i64 n1, .bool true])) w5 := by
          have hh := run_entry_at (P := P) w5 w1.heap.size L.blk clock seen es clock e hr5' hw5 hees hbd'
          rw [hk1, hv1] at hh
          obtain ⟨dst, op, ty, ps, af, g⟩ := oE
          obtain ⟨rfl, _, _⟩ := hoE
          simp only [execOp, hit5, Sem.run_bind, hh, Result.andThen_ok, Sem.run_pure]
        refine oper_val (isDefer_no (by rw [hoE.1]; rfl)) (hrun6) hoE.2.1 ?_
        refine evOps_pre hcall none ops6 r6 1 _ Hs (T6 n1) Hs (fun j o hj => ⟨c6c j o hj, hr6 o (List.mem_of_getElem? hj)⟩) (e6 n1 Hs) n B0 w0 m5 _ w5 a5.defers [] _ A5.rel (put_rel A5.tmps (some en) (.tuple _ _ rfl fun i x y hx hy => by
          rw [hx] at hy; cases hy
          have := Array.mem_of_getElem? hx
          simp at this
          rcases this with rfl | rfl <;> exact .flat _ rfl)) (put_defers _ _ _) fun m6 a6 w6 A6 => ?_
        simp only [wpOpsIn]
        obtain ⟨Tb, Hb, hev, hTb, hIb⟩ := step S n1 Hs hI hn1 hnS
        obtain ⟨e7, T7, H7, h7, hsim⟩ := evalK_sound hcall hdraw hmix n0 tb none body (.inl rfl) (RangesAt.nil hbody) _ _ _ _ hev
        cases h7
        have hlt5 : L.blk < w5.heap.size := (Array.getElem?_eq_some_iff.1 hw5).1
        have hrlt5 : w1.heap.size < w5.heap.size := (Array.getElem?_eq_some_iff.1 hr5').1
        have fL6 := fL5.ext A5.rel A6.ext hlt5
        have fr6 := fr5.ext A5.rel A6.ext hrlt5
        have hw6 := (fL5.frame A6.ext hlt5).trans hw5
        have hr6' := (fr5.frame A6.ext hrlt5).trans hr5'
        have hd6 : Marks Bf a6.defers m6 Hs w6 := by rw [A6.defers]; exact hd5.ext A5.rel A6.ext
        have E6 := Ext.trans (fun b L hb => (Rk.dom b L hb).1) E5 A6.ext
        show Code.wpIn _ _ _ _ _ _ _
        refine hsim n Bf B0 w0 m6 a6 w6 _ A6.rel A6.tmps hd6 (Nat.le_trans hsz1 E6.size) fun m7 a7 w7 A7 => ?_
        show Code.roundsIn _ _ _ _ _ _ _ _
        have hlt6 : L.blk < w6.heap.size := (Array.getElem?_eq_some_iff.1 hw6).1
        have hrlt6 : w1.heap.size < w6.heap.size := (Array.getElem?_eq_some_iff.1 hr6').1
        refine ih (n1 :: S) Hb m7 a7 w7 (seen.push e.born) hIb (List.nodup_cons.2 ⟨hnS, hSn⟩) (fun x hx => ?_) (fun e' he' => ?_) (by have := left_shrinks es seen e heL; omega) (Ext.trans (fun b L hb => (Rk.dom b L hb).1) E6 A7.ext) A7.rel
          (by rw [← hTb]; exact mk _ _ _ _ A7.tmps) A7.marks (fL6.ext A6.rel A7.ext hlt6) (fr6.ext A6.rel A7.ext hrlt6) ((fL6.frame A7.ext hlt6).trans hw6) ((fr6.frame A7.ext hrlt6).trans hr6') (A7.ext.mono _ _ (A6.ext.mono _ _ hmi5))
        · rcases List.mem_cons.1 hx with rfl | hx
          · exact hn1
          · exact hS0 x hx
        · rw [contains_push]
          constructor
          · intro h
            rcases Bool.or_eq_true _ _ ▸ h with h | h
            · obtain ⟨n2, h2, h3⟩ := (hseen e' he').1 h
              exact ⟨n2, .tail _ h2, h3⟩
            · have := born_inj hbd' he' hees (by simpa using h)
              subst this
              exact ⟨n1, .head _, hk1⟩
          · rintro ⟨n2, h2, h3⟩
            rcases List.mem_cons.1 h2 with rfl | h2
            · have hee : e' = e := nodup_key hnd (hpm.mem_iff.1 he') (hpm.mem_iff.1 hees) (h3.trans hk1.symm)
              subst hee
              simp
            · rw [(hseen e' he').2 ⟨n2, h2, h3⟩]
              rfl
  exact wpIn_loop_rounds _ (key _ [] H2 m2 a2 w2 #[] inv0 List.nodup_nil (fun n h => by cases h) (fun e he => ⟨fun h => by simp at h, fun ⟨n, h, _⟩ => by cases h⟩) (Nat.lt_succ_self _) E2 R2 hT2 hmk2 fL fr hw2 hr2 hmi)
end Go.AM
namespace Go.AM
open Go.RowKit
theorem list_of {n : Nat} {T : List Value} (h : T.length = n) : T = (List.range n).map fun i => T.getD i undef := by
  apply List.ext_getElem?
  intro i
  rw [List.getElem?_map]
  by_cases hi : i < n
  · rw [List.getElem?_range hi, List.getElem?_eq_getElem (by omega)]
    simp [List.getD, List.getElem?_eq_getElem (show i < T.length by omega)]
  · rw [List.getElem?_eq_none (by omega), List.getElem?_eq_none (by simp; omega)]
    rfl
theorem set_at {H : AH} {b : Nat} {o : Option Blk} (h : H[b]? = some o) : H.set b o = H := by
  apply List.ext_getElem?
  intro i
  rw [List.getElem?_set]
  split
  · rename_i hi
    subst hi
    rw [h, if_pos (List.getElem?_eq_some_iff.1 h).1]
  · rfl
def opsAt : Code → Array Oper
  | .region _ ops _ => ops
  | _ => #[]
def op0 : Oper := ⟨none, .move (.const undef), 0, "", #[], none⟩
theorem noGuard {l : List Oper} (h : l.all (fun o => o.guard.isNone) = true) : ∀ o ∈ l, o.guard = none := fun o ho => by
  have := List.all_eq_true.1 h o ho
  simpa using this
theorem aChk_some {R : Type} {p : Prop} {x : Option R} {r : R} (h : aChk p x = some r) : p ∧ x = some r := by
  unfold aChk at h
  split at h
  · rename_i hp; exact ⟨hp, h⟩
  · cases h
noncomputable section
variable (P : Program) (call : CallF) (n : Nat) (tb : Tbl) (M : Mid)
def resumeP {R : Type} : Code → List Nat → List Nat → EX → List Value → AH → (EX → List Value → AH → Option R) → Option R
  | .seq a b, 0 :: q, 0 :: p, e, T, H, K => resumeP a q p e T H (kSeq (fun T' H' => evalK P call n tb b (cutT tb (3 * firstId b) T') H' K) K)
  | .seq a b, 0 :: q, 1 :: p, e, T, H, K => resume P call n tb a q e T H (kSeq (fun T' H' => evalP P call n tb M b p (cutT tb (3 * firstId b) T') H' K) K)
  | .seq _ b, 1 :: q, 1 :: p, e, T, H, K => resumeP b q p e T H K
  | .seq _ b, 1 :: q, 0 :: _, e, T, H, K => resume P call n tb b q e T H K
  | .block id b, 0 :: q, 0 :: p, e, T, H, K => resumeP b q p e T H (kBlock id K)
  | .scope b, 0 :: q, 0 :: p, e, T, H, K => resumeP b q p e T H K
  | _, _, _, e, T, H, K => K e T H
end
noncomputable def gText (args : List Value) (H : AH) : Option AH :=
  match args with
  | [.pointer (some ⟨hb, 0, none⟩), s] => (ldC H (ptr hb 2)).bind fun mv => (gBits [mv, s] H).map fun H' => H' ++ [none]
  | _ => none
theorem gBits_inv {mv s : Value} {H H' : AH} (h : gBits [mv, s] H = some H') : ∃ a b km kb S, mv = .map (some a) ∧ s = .slice (some ⟨b, 0, none⟩) 72 72 ∧ blk H a = some km ∧ km.kind = .map ∧ km.cells = entI S ∧ blk H b = some kb ∧ kb.kind = .fix ∧ a ≠ b ∧ (∀ n ∈ S, 0 ≤ n ∧ n < 512) ∧ kb.cells.length = 72 ∧ kb.cells.drop 8 = List.replicate 64 (.int .u8 0) ∧ H' = put H b kb (kb.cells.take 8 ++ bmV S) := by
  unfold gBits at h
  split at h
  · rename_i mb b heq
    obtain ⟨h1, h2⟩ := List.cons.inj heq
    obtain ⟨h3, _⟩ := List.cons.inj h2
    obtain ⟨km, h4, h⟩ := bind_some h
    obtain ⟨S, h5, h⟩ := bind_some h
    obtain ⟨kb, h6, h⟩ := bind_some h
    obtain ⟨⟨h0, h7, h8, h9, h10⟩, h11⟩ := aChk_some h
    obtain ⟨h12, h13⟩ := mapB_inv h4
    cases h11
    exact ⟨mb, b, km, kb, S, h1, h3, h12, h13, ent_keysI h5, h6, h8, h0, h7, h9, h10, rfl⟩
  · cases h
end Go.AM
namespace Go.AM.F
open Go Go.AM Go.Proofs
noncomputable section
def mText : Mid := ⟨[1, 1, 1, 1, 0], 52, [1, 3], [3], gText⟩
variable {call : CallF} {n0 : Nat} {tb : Tbl}
noncomputable abbrev cT (p : List Nat) : Code := codeAt (bodyOf Tryz.f71) ([1, 1, 1, 1, 0] ++ p)
abbrev tkT (s x : Value) : List Value := ((List.replicate 52 unk).set 3 s).set 34 x
abbrev t5T (s x : Value) (n : Int) : List Value := ((tkT s x).set 35 (.tuple #[.bool true, .int .i64 n, .bool true])).set 36 (.bool true)
abbrev t6T (s x : Value) (n : Int) : List Value := (((t5T s x n).set 37 (.tuple #[.int .i64 n, .bool true])).set 38 (.int .i64 n)).set 5 (.int .i64 n)
theorem bodyT (s x : Value) (n : Int) (H : AH) : evalK Tryz.prog call n0 tb (cT [1, 0, 0, 1, 1, 0, 1]) (t6T s x n) H (fun e T H => some (e, T, H)) =
    (bin Tryz.prog .quo 3 (.int .i64 n) (.int .i64 8)).bind fun v41 => (bin Tryz.prog .add 3 (.int .i64 8) v41).bind fun v42 => (ixA Tryz.prog 63 s v42).bind fun v43 => (ld Tryz.prog 5 H v43).bind fun v44 =>
      (bin Tryz.prog .rem 3 (.int .i64 n) (.int .i64 8)).bind fun v46 => (bin Tryz.prog .shl 5 (.int .u8 1) v46).bind fun v47 => (bin Tryz.prog .or 5 v44 v47).bind fun v48 => (ixA Tryz.prog 63 s v42).bind fun v49 => (st Tryz.prog 5 H v49 v48).bind fun h =>
      some (.normal, ((((((((((t6T s x n).set 39 s).set 40 (.int .i64 n)).set 41 v41).set 42 v42).set 43 v43).set 44 v44).set 45 (.int .i64 n)).set 46 v46).set 47 v47 |>.set 48 v48).set 49 v49, h) := by kernel_rfl
theorem preT (g : Nat → Value) (H : AH) : evOps Tryz.prog call (opsAt (cT [0])) ((opsAt (cT [0])).toList.take 2) ((List.range 52).map g) H (fun T H => some (T, H)) =
    (fldA Tryz.prog 83 (g 1) 2).bind fun v => (ld Tryz.prog 81 H v).bind fun mv => some ((((List.range 52).map g).set 32 v).set 33 mv, H) := by kernel_rfl
theorem codeT : cT [] = .seq (.region 8 (opsAt (cT [0])) false) (.block 2 (.loop (.seq (.region 9 (opsAt (cT [1, 0, 0, 0])) false) (.seq (.cond (.tmp 36) .skip (.exit 2)) (.block 3 (.seq (.region 10 (opsAt (cT [1, 0, 0, 1, 1, 0, 0])) false) (cT [1, 0, 0, 1, 1, 0, 1]))))))) := by kernel_rfl
theorem ldC_of {t : TypeId} {H : AH} {b o : Nat} {v : Value} (ha : aggT Tryz.prog t = some false) (h : ldC H (ptr b o) = some v) : ld Tryz.prog t H (ptr b o) = some v := by
  unfold ld; rw [ha]; exact h
theorem mText_ok (hcall : CallOK Tryz.prog call) (hdraw : DrawOK Tryz.prog call) (hmix : (Tryz.prog).follows .mixedOrders = true) : MidOK Tryz.prog (bodyOf Tryz.f71) mText := by
  intro T H H' hlen h
  have hT := list_of (n := 52) hlen
  generalize hg : (fun i => T.getD i undef) = g at hT
  have hg1 : T.getD 1 undef = g 1 := by rw [← hg]
  have hg3 : T.getD 3 undef = g 3 := by rw [← hg]
  have h0 : gText [g 1, g 3] H = some H' := by rw [← hg1, ← hg3]; exact h
  clear h
  unfold gText at h0
  split at h0
  case h_2 => cases h0
  rename_i hb s heq
  obtain ⟨q1, q2⟩ := List.cons.inj heq
  obtain ⟨q3, _⟩ := List.cons.inj q2
  obtain ⟨mv, hmv, h0⟩ := bind_some h0
  cases hgb : gBits [mv, s] H with
  | none => rw [hgb] at h0; cases h0
  | some H2 =>
    rw [hgb] at h0
    have hH' : H2 ++ [none] = H' := Option.some.inj h0
    obtain ⟨a, b, km, kb, S, rfl, hs, b1, b2, b3, b4, b5, b6, b7, b8, b9, rfl⟩ := gBits_inv hgb
    have hsv : g 3 = sl b 0 72 72 := q3.trans hs
    have halt := blk_lt' b1
    have hblt := blk_lt' b4
    have hmid : midT mText T = (List.replicate 52 unk).set 3 (g 3) := by rw [hT]; kernel_rfl
    rw [hmid, hT]
    show CodeSim Tryz.prog none (cT []) _ _ _ _ _
    rw [codeT]
    let HS : List Int → AH := fun S' => (kill H a ++ [none]).set b (some ⟨kb.cells.take 8 ++ bmV S', kb.elem, kb.kind⟩)
    have hHS : ∀ S', blk (HS S') b = some ⟨kb.cells.take 8 ++ bmV S', kb.elem, kb.kind⟩ := fun S' => blk_set_same (by simp [kill]; omega)
    refine range_sim hcall hdraw hmix 0 [] (pre := (opsAt (cT [0])).toList.take 2) (oR := (opsAt (cT [0])).toList.getD 2 op0) (r5 := (opsAt (cT [1, 0, 0, 0])).toList.drop 1) (oN := (opsAt (cT [1, 0, 0, 0])).toList.getD 0 op0) (r6 := (opsAt (cT [1, 0, 0, 1, 1, 0, 0])).toList.drop 1) (oE := (opsAt (cT [1, 0, 0, 1, 1, 0, 0])).toList.getD 0 op0)
      (tm := 81) (kt := 3) (et := 4) (mp := 33) (it := 34) (nx := 35) (en := 37) (ok := 36) (by kernel_rfl) (noGuard (by kernel_rfl)) ⟨by kernel_rfl, by kernel_rfl, by kernel_rfl⟩ (by kernel_rfl) (noGuard (by kernel_rfl)) ⟨by kernel_rfl, by kernel_rfl, by kernel_rfl⟩ (by kernel_rfl) (noGuard (by kernel_rfl)) ⟨by kernel_rfl, by kernel_rfl, by kernel_rfl⟩ (by kernel_rfl) (by kernel_rfl)
      (T1 := (((List.range 52).map g).set 32 (ptr hb 2)).set 33 (.map (some a))) (Tk := tkT (g 3) (ptr H.length 0)) (keep := [3, 34]) (keepM := [3]) (a := a) (km := km) (S0 := S) (T5 := t5T (g 3) (ptr H.length 0)) (T6 := t6T (g 3) (ptr H.length 0)) (T5f := ((tkT (g 3) (ptr H.length 0)).set 35 (.tuple #[.bool false])).set 36 (.bool false))
      ?_ (by kernel_rfl) b1 b2 b3 (by kernel_rfl) (by kernel_rfl) (fun n Hs => by kernel_rfl) (fun n => by kernel_rfl) (fun n => by kernel_rfl) (fun n Hs => by kernel_rfl) (fun Hs => by kernel_rfl) (by kernel_rfl) (by kernel_rfl)
      (fun S' Hs => Hs = HS S') ?_ ?_ ?_ ?_
    · rw [preT, show g 1 = ptr hb 0 from q1, show fldA Tryz.prog 83 (ptr hb 0) 2 = some (ptr hb 2) by kernel_rfl, Option.bind_some, ldC_of (by kernel_rfl) hmv, Option.bind_some]
    · refine (set_at ?_).symm
      rw [List.getElem?_append_left (by simp [kill]; exact hblt)]
      unfold kill
      rw [List.getElem?_set_ne b6]
      have := blk_eq.1 b4
      rw [this, bmV_nil, ← b9, List.take_append_drop]
    · rintro S' Hs rfl
      show blk (List.set _ b _) a = none
      rw [blk_set_ne (Ne.symm b6)]
      unfold blk kill
      rw [List.getElem?_append_left (by simpa using halt), List.getElem?_set_self halt]
      rfl
    · rintro S' n Hs rfl hn hnS
      obtain ⟨hn0, hn1⟩ := b7 n hn
      obtain ⟨k, rfl⟩ : ∃ k : Nat, n = k := ⟨n.toNat, by omega⟩
      have hk8 : k / 8 < 64 := by omega
      have hm8 := Nat.mod_lt k (show 0 < 8 by decide)
      rw [bodyT, hsv]
      rw [show bin Tryz.prog .quo 3 (.int .i64 (k : Int)) (.int .i64 8) = some (i64 (k / 8)) from quoL (by omega), Option.bind_some]
      rw [show bin Tryz.prog .add 3 (.int .i64 8) (i64 (k / 8)) = some (i64 (8 + k / 8)) from by rw [bin_add64 (by omega)]; congr 2, Option.bind_some]
      have hx : ixA Tryz.prog 63 (sl b 0 72 72) (i64 (8 + k / 8)) = some (ptr b (8 + k / 8)) := by
        unfold ixA sl
        rw [show Program.underlying Tryz.prog 63 = some (.slice 5) by kernel_rfl]
        dsimp only
        rw [if_pos ⟨by kernel_rfl, by omega, by omega⟩, show szT Tryz.prog 5 = 1 by kernel_rfl]
        simp
        congr 1
      have hl8 : (kb.cells.take 8).length = 8 := by rw [List.length_take]; omega
      have hgc : (kb.cells.take 8 ++ bmV S')[8 + k / 8]? = some (.int .u8 (bm S' (k / 8) : Int)) := by
        rw [List.getElem?_append_right (by omega), hl8, Nat.add_sub_cancel_left, bmV_at _ hk8]
      rw [hx, Option.bind_some]
      rw [ldC_of (H := HS S') (b := b) (o := 8 + k / 8) (v := .int .u8 (bm S' (k / 8) : Int)) (by kernel_rfl) (by
        unfold ldC AM.ptr
        dsimp only
        rw [hHS, Option.bind_some]
        exact hgc), Option.bind_some]
      rw [show bin Tryz.prog .rem 3 (.int .i64 (k : Int)) (.int .i64 8) = some (i64 (k % 8)) from remL (by decide), Option.bind_some]
      have hshl : ∀ q : Nat, q < 8 → bin Tryz.prog .shl 5 (.int .u8 1) (i64 q) = some (u8 (2 ^ q)) := by
        intro q hq
        have hq8 : q = 0 ∨ q = 1 ∨ q = 2 ∨ q = 3 ∨ q = 4 ∨ q = 5 ∨ q = 6 ∨ q = 7 := by omega
        rcases hq8 with h | h | h | h | h | h | h | h <;> (rw [h]; rfl)
      rw [hshl _ hm8, Option.bind_some]
      have h2 : 2 ^ (k % 8) < 2 ^ 8 := Nat.pow_lt_pow_right (by decide) hm8
      have h2' : 2 ^ (k % 8) < 256 := h2
      have hb2 := bm_lt S' (k / 8)
      rw [show bin Tryz.prog .or 5 (.int .u8 (bm S' (k / 8) : Int)) (u8 (2 ^ (k % 8))) = some (u8 (bm S' (k / 8) ||| 2 ^ (k % 8))) by
        rw [bin_or]
        congr 2
        have e1 : IntKind.u8.bits = 8 := rfl
        rw [e1, BitVec.toNat_or]
        rw [show (BitVec.ofInt 8 (bm S' (k / 8) : Int)).toNat = bm S' (k / 8) by rw [BitVec.toNat_ofInt]; omega, show (BitVec.ofInt 8 ((2 ^ (k % 8) : Nat) : Int)).toNat = 2 ^ (k % 8) by
          rw [BitVec.toNat_ofInt]
          have hz := h2'
          generalize 2 ^ (k % 8) = z at hz ⊢
          omega]
        rw [wrapu8]
        have := Nat.or_lt_two_pow (n := 8) hb2 h2
        omega, Option.bind_some, Option.bind_some]
      have hst : st Tryz.prog 5 (HS S') (ptr b (8 + k / 8)) (u8 (bm S' (k / 8) ||| 2 ^ (k % 8))) = some (HS ((k : Int) :: S')) := by
        unfold st
        rw [show aggT Tryz.prog 5 = some false by kernel_rfl]
        dsimp only
        rw [if_pos (by kernel_rfl)]
        unfold stC AM.ptr
        dsimp only
        rw [hHS, Option.bind_some, if_pos ⟨by show BK.wr kb.kind = true; rw [b5]; rfl, by show 8 + k / 8 < (kb.cells.take 8 ++ bmV S').length; rw [List.length_append, hl8, bmV_len]; omega, rfl⟩]
        congr 1
        show List.set (List.set _ b _) b _ = List.set _ b _
        rw [List.set_set]
        congr 3
        dsimp only
        rw [List.set_append_right _ _ (by omega), hl8, Nat.add_sub_cancel_left]
        have := bmV_cons (n := (k : Int)) (S := S') (by rw [Int.toNat_natCast]; exact hk8)
        rw [Int.toNat_natCast] at this
        rw [this]
      rw [hst, Option.bind_some]
      exact ⟨_, _, rfl, by kernel_rfl, rfl⟩
    · rintro S' Hs rfl _ hS
      have e : (HS S').set a (some km) = H' := by
        rw [← hH']
        show ((kill H a ++ [none]).set b _).set a _ = List.set H b _ ++ [none]
        rw [bmV_congr hS]
        apply List.ext_getElem?
        intro i
        have hka : kill H a ++ [none] = (H ++ [none]).set a none := by unfold kill; rw [List.set_append_left _ _ halt]
        have hkb : ∀ o : Option Blk, List.set H b o ++ [none] = (H ++ [none]).set b o := fun o => by rw [List.set_append_left _ _ hblt]
        rw [hka, hkb]
        simp only [List.getElem?_set, List.length_set]
        by_cases h1 : a = i
        · subst h1
          rw [if_pos rfl, if_neg (Ne.symm b6), if_pos (by simp; omega), List.getElem?_append_left halt]
          exact (blk_eq.1 b1).symm
        · rw [if_neg h1]
          by_cases h2 : b = i
          · subst h2; rw [if_pos rfl, if_pos rfl]
          · rw [if_neg h2, if_neg h2, if_neg h1]
      rw [e]
      refine ⟨?_, fun b k' hk => ⟨k', hk, rfl⟩, fun _ _ _ _ R => R⟩
      rw [← e, List.length_set]
end
end Go.AM.F
namespace Go.AM.F
open Go Go.AM Go.Proofs
noncomputable section
@[irreducible] def long0 : ByteArray := ⟨#[32, 32, 32, 32, 32, 32, 32, 32, 32, 32, 32, 32, 32, 32, 32, 32, 32, 32, 32, 32, 32, 32, 32, 32, 32, 32, 32, 32, 32, 32, 32, 32, 32, 32, 32, 32, 32, 32, 32, 32, 32, 32, 32, 32, 32, 32, 32, 32, 32, 32, 32, 32, 32, 32, 32, 32, 32, 32, 32, 32, 32, 32, 32, 32, 32, 32, 32, 32, 32, 32, 32, 32, 32, 32, 32, 32, 32, 32, 32, 32, 32, 32, 32, 32, 32, 32, 32, 32, 32, 32, 32, 32, 32, 32, 32, 32, 32, 32, 32, 32, 32, 32, 32, 32, 32, 32, 32, 32, 32, 32, 32, 32, 32, 32, 32, 32, 32, 32, 32, 32, 32, 32, 32, 32, 32, 32, 32, 32]⟩
@[irreducible] def long1 : ByteArray := ⟨#[45, 45, 45, 45, 45, 45, 45, 45, 45, 45, 45, 45, 45, 45, 45, 45, 45, 45, 45, 45, 45, 45, 45, 45, 45, 45, 45, 45, 45, 45, 45, 45, 45, 45, 45, 45, 45, 45, 45, 45, 45, 45, 45, 45, 45, 45, 45, 45, 45, 45, 45, 45, 45, 45, 45, 45, 45, 45, 45, 45, 45, 45, 45, 45, 45, 45, 45, 45, 45, 45, 45, 45, 45, 45, 45, 45, 45, 45, 45, 45, 45, 45, 45, 45, 45, 45, 45, 45, 45, 45, 45, 45, 45, 45, 45, 45, 45, 45, 45, 45, 45, 45, 45, 45, 45, 45, 45, 45, 45, 45, 45, 45, 45, 45, 45, 45, 45, 45, 45, 45, 45, 45, 45, 45, 45, 45, 45, 45]⟩
@[irreducible] def long2 : ByteArray := ⟨#[48, 48, 48, 48, 48, 48, 48, 48, 48, 48, 48, 48, 48, 48, 48, 48, 48, 48, 48, 48, 48, 48, 48, 48, 48, 48, 48, 48, 48, 48, 48, 48, 48, 48, 48, 48, 48, 48, 48, 48, 48, 48, 48, 48, 48, 48, 48, 48, 48, 48, 48, 48, 48, 48, 48, 48, 48, 48, 48, 48, 48, 48, 48, 48]⟩
@[irreducible] def long3 : ByteArray := ⟨#[61, 61, 61, 61, 61, 61, 61, 61, 61, 61, 61, 61, 61, 61, 61, 61, 61, 61, 61, 61, 61, 61, 61, 61, 61, 61, 61, 61, 61, 61, 61, 61, 61, 61, 61, 61, 61, 61, 61, 61, 61, 61, 61, 61, 61, 61, 61, 61, 61, 61, 61, 61, 61, 61, 61, 61, 61, 61, 61, 61, 61, 61, 61, 61, 61, 61, 61, 61, 61, 61, 61, 61, 61, 61, 61, 61, 61, 61, 61, 61, 61, 61, 61, 61, 61, 61, 61, 61, 61, 61, 61, 61, 61, 61, 61, 61, 61, 61, 61, 61, 61, 61, 61, 61, 61, 61, 61, 61, 61, 61, 61, 61, 61, 61, 61, 61, 61, 61, 61, 61, 61, 61, 61, 61, 61, 61, 61, 61]⟩
def tbs : FuncId → Tbl
  | 3 => [(18, [0, 1, 2, 3, 4, 5, 13]), (37, [0, 1, 3, 4, 5, 13, 14, 16]), (38, [0, 3, 4, 5, 12, 13, 14])]
  | 8 => [(19, [0, 1, 6, 7, 8]), (20, [0, 1, 4, 5, 6, 7]), (43, [0, 1, 6, 7, 11]), (44, [4, 5, 7]), (57, [0, 1, 6, 7, 11, 12])]
  | 9 => [(13, [0, 1, 5]), (14, [4])]
  | 11 => [(13, [0, 10, 11]), (14, [2, 3])]
  | 12 => [(13, [0, 4]), (14, [2, 3])]
  | 15 => [(2, [15]), (13, [4, 5, 6]), (14, [4, 5, 6])]
  | 17 => [(2, [17]), (13, [4, 5, 6]), (14, [4, 5, 6])]
  | 19 => [(13, [0, 1, 5]), (14, [4])]
  | 25 => [(27, [0, 4, 5])]
  | 28 => [(10, [0, 1, 6, 16, 17]), (11, [0, 1, 4, 5, 6]), (31, [0, 1, 6, 32, 33, 34]), (32, [4, 5, 6]), (45, [0, 1, 6, 10, 11, 32, 33, 34])]
  | 34 => [(2, [34]), (22, [3, 4, 5]), (23, [0, 3, 4, 5])]
  | 35 => [(22, [0, 1, 6, 7]), (23, [6])]
  | 36 => [(10, [0, 3, 6, 7]), (11, [3])]
  | 37 => [(10, [0, 3, 4]), (11, [3])]
  | 43 => [(7, [0, 1, 5]), (8, [4])]
  | 46 => [(9, [1])]
  | 51 => [(13, [0, 7, 8, 9]), (14, [4, 5, 6])]
  | 55 => [(16, [0, 3, 4]), (17, [3])]
  | 57 => [(10, [0, 1, 2, 7, 8]), (11, [1, 2, 7]), (28, [2, 7, 9]), (29, [7])]
  | 58 => [(19, [0, 3]), (20, [0])]
  | 61 => [(7, [0, 1, 7, 8]), (8, [4])]
  | 66 => [(7, [0, 2, 4, 5]), (8, [])]
  | 70 => [(7, [0, 1, 5]), (8, [4])]
  | 71 => [(10, [1, 3, 7]), (11, [1, 3])]
  | 73 => [(4, [0, 6, 7, 8]), (5, [0])]
  | 76 => [(4, [0, 1, 3]), (5, [])]
  | 77 => [(10, [3, 6, 7, 8]), (11, [3])]
  | 78 => [(24, [0, 1]), (33, [0, 6]), (90, [0, 7]), (105, [0, 7, 8]), (115, [7, 8, 9]), (116, [9])]
  | 81 => [(10, [0, 3, 4]), (11, [3]), (22, [0, 3, 4, 5]), (23, [0, 3, 4])]
  | 82 => [(16, [0, 1, 7, 17]), (17, [4, 5, 6, 7])]
  | 90 => [(10, [0, 3, 6, 7]), (11, [3]), (22, [0, 3, 6, 7, 16]), (23, [0, 3, 6, 7])]
  | 99 => [(4, [0, 1]), (5, [0])]
  | 100 => [(4, [0, 1]), (5, [0])]
  | 101 => [(7, [0, 2, 4]), (8, [2, 3])]
  | 102 => [(4, [0, 1]), (5, [0])]
  | 103 => [(4, [0, 1]), (5, [0])]
  | 104 => [(4, [0, 1]), (5, [0])]
  | 105 => [(4, [0, 1]), (5, [0]), (15, [0, 1, 5, 6])]
  | 109 => [(31, [0, 4, 5, 6]), (32, [0, 4, 5]), (45, [0, 4, 5])]
  | 111 => [(16, [0, 7, 8, 9]), (17, [4]), (33, [0, 7, 8, 9]), (37, [0, 7, 8, 9, 12]), (38, [8, 9])]
  | _ => []
noncomputable def gv : Given := fun f => if f = 68 then some (plain (gCopy Tryz.prog [92])) else if f = 88 then some (plain (gGrow Tryz.prog [92] 5)) else if f = 71 then some (fun call n => runMid Tryz.prog call n (tbs 71) mText Tryz.f71) else none
noncomputable abbrev rn (k : Nat) : CallF := run Tryz.prog tbs gv k
theorem ranges : rangesB Tryz.prog tbs = true := by kernel_rfl
abbrev f3_T_J0 (s0 s1 s2 s3 s4 s5 s13 : Value) : List Value := [s0, s1, s2, s3, s4, s5, unk, unk, unk, unk, unk, unk, unk, s13] ++ List.replicate 244 unk
abbrev f3_T_L0 (s0 s1 s3 s4 s5 s13 s14 s16 : Value) : List Value := [s0, s1, unk, s3, s4, s5, unk, unk, unk, unk, unk, unk, unk, s13, s14, unk, s16] ++ List.replicate 241 unk
abbrev f3_X_L0 (s0 s3 s4 s5 s12 s13 s14 : Value) : List Value := [s0, unk, unk, s3, s4, s5, unk, unk, unk, unk, unk, unk, s12, s13, s14] ++ List.replicate 243 unk
@[irreducible] def f3_J0 (k : Nat) (s0 s1 s2 s3 s4 s5 s13 : Value) (H : AH) : Option (Value × AH) := resume Tryz.prog (rn k) k (tbs 3) (bodyOf Tryz.f3) [1, 1, 1, 0] .normal (f3_T_J0 s0 s1 s2 s3 s4 s5 s13) H (resK Tryz.prog Tryz.f3.results.toList)
@[irreducible] def f3_L0 (k : Nat) (s0 s1 s3 s4 s5 s13 s14 s16 : Value) (n : Nat) (H : AH) : Option Out := iterD (fun T H K => evalK Tryz.prog (rn k) k (tbs 3) (codeAt (bodyOf Tryz.f3) [1, 1, 1, 1, 1, 1, 1, 1, 0, 1, 0, 0]) T H K) (cutT (tbs 3) 37) (cutT (tbs 3) 38) n (f3_T_L0 s0 s1 s3 s4 s5 s13 s14 s16) H
@[irreducible] def f3_A0 (k : Nat) (e : EX) (T : List Value) (H : AH) : Option (Value × AH) := resume Tryz.prog (rn k) k (tbs 3) (bodyOf Tryz.f3) [1, 1, 1, 1, 1, 1, 1, 1, 0, 1, 0] e T H (resK Tryz.prog Tryz.f3.results.toList)
theorem f3_J0_eq (k : Nat) (s0 s1 s2 s3 s4 s5 s13 : Value) (H : AH) : f3_J0 k s0 s1 s2 s3 s4 s5 s13 H =
(bin Tryz.prog .rem 3 s0 (.int .i64 53)).bind fun v6 =>
(bin Tryz.prog .add 3 (.int .i64 8) v6).bind fun v7 =>
b2 (rn k 5 [v7] H) fun v8 h8 =>
(ext v8 0).bind fun v9 =>
(ext v8 1).bind fun v10 =>
(bin Tryz.prog .eql 24 v9 (.pointer none)).bind fun v11 =>
b2 (gOp v11 false (some (v9, h8)) h8) fun v12 h12 =>
b2 (gOp v11 false ((nilChk v12).bind fun v => some (v, h12)) h12) fun v13 h13 =>
b2 (gOp v11 false ((fldA Tryz.prog 32 v13 2).bind fun v => some (v, h13)) h13) fun v14 h14 =>
b2 (gOp v11 false ((ld Tryz.prog 29 h14 v14).bind fun v => some (v, h14)) h14) fun v15 h15 =>
b2 (gOp v11 false ((bin Tryz.prog .eql 29 v15 (.pointer none)).bind fun v => some (v, h15)) h15) fun v16 h16 =>
(pickV v11 (.bool true) v16).bind fun v17 =>
b2 (gOp v17 false (some (v10, h16)) h16) fun v18 h18 =>
b2 (gOp v17 false ((un Tryz.prog .not v18).bind fun v => some (v, h18)) h18) fun v19 h19 =>
(pickV v17 (.bool true) v19).bind fun v20 =>
aIf v20
 (some ((.bool false), h19))
 ((nilChk v9).bind fun v21 =>
 (fldA Tryz.prog 32 v21 0).bind fun v22 =>
 (ld Tryz.prog 27 h19 v22).bind fun v23 =>
 b2 (rn k 6 [v23, s2] h19) fun v24 h24 =>
 (nilChk v9).bind fun v25 =>
 (fldA Tryz.prog 32 v25 1).bind fun v26 =>
 (ld Tryz.prog 28 h24 v26).bind fun v27 =>
 (nilChk v27).bind fun v28 =>
 (fldA Tryz.prog 36 v28 2).bind fun v29 =>
 (st Tryz.prog 3 h24 v29 s2).bind fun h30 =>
 (f3_L0 k s0 s1 s3 s4 s5 s13 v9 (.int .i64 0) k h30).bind fun p => f3_A0 k p.1 p.2.1 p.2.2) := by kernel_rfl
theorem f3_L0_succ (k : Nat) (s0 s1 s3 s4 s5 s13 s14 s16 : Value) (n : Nat) (H : AH) : f3_L0 k s0 s1 s3 s4 s5 s13 s14 s16 (n + 1) H =
(lenV Tryz.prog 22 s1).bind fun v31 =>
(bin Tryz.prog .lss 3 s16 v31).bind fun v32 =>
b2 (gOp v32 true (some (s16, H)) H) fun v33 h33 =>
b2 (gOp v32 true ((bin Tryz.prog .lss 3 v33 (.int .i64 6)).bind fun v => some (v, h33)) h33) fun v34 h34 =>
(pickV v32 v34 (.bool false)).bind fun v35 =>
aIf v35
 ((ixA Tryz.prog 22 s1 s16).bind fun v36 =>
 (ld Tryz.prog 9 h34 v36).bind fun v37 =>
 (ixA Tryz.prog 22 s1 s16).bind fun v38 =>
 (ld Tryz.prog 9 h34 v38).bind fun v39 =>
 (lenV Tryz.prog 9 v39).bind fun v40 =>
 (fold1 minV [v40, (.int .i64 3000)]).bind fun v41 =>
 (slc Tryz.prog 9 v37 none (some v41)).bind fun v42 =>
 (nilChk s14).bind fun v43 =>
 (fldA Tryz.prog 32 v43 2).bind fun v44 =>
 (ld Tryz.prog 29 h34 v44).bind fun v45 =>
 b2 (rn k 7 [v45, v42] h34) fun v46 h46 =>
 (ext v46 0).bind fun v47 =>
 (ext v46 1).bind fun v48 =>
 (nilChk s14).bind fun v49 =>
 (fldA Tryz.prog 32 v49 3).bind fun v50 =>
 (ld Tryz.prog 30 h46 v50).bind fun v51 =>
 b2 (rn k 8 [v51, v42] h46) fun v52 h52 =>
 (ext v52 0).bind fun v53 =>
 (ext v52 1).bind fun v54 =>
 (nilChk s14).bind fun v55 =>
 (fldA Tryz.prog 32 v55 0).bind fun v56 =>
 (ld Tryz.prog 27 h52 v56).bind fun v57 =>
 (nilChk s14).bind fun v58 =>
 (fldA Tryz.prog 32 v58 1).bind fun v59 =>
 (ld Tryz.prog 28 h52 v59).bind fun v60 =>
 b2 (rn k 9 [v57, v60] h52) fun v61 h61 =>
 b2 (rn k 10 [s14] h61) fun v62 h62 =>
 (bin Tryz.prog .neq 3 v47 v53).bind fun v63 =>
 b2 (gOp v63 false (some (v48, h62)) h62) fun v64 h64 =>
 b2 (gOp v63 false (some (v54, h64)) h64) fun v65 h65 =>
 b2 (gOp v63 false ((bin Tryz.prog .neq 3 v64 v65).bind fun v => some (v, h65)) h65) fun v66 h66 =>
 (pickV v63 (.bool true) v66).bind fun v67 =>
 b2 (gOp v67 false (some (v61, h66)) h66) fun v68 h68 =>
 b2 (gOp v67 false ((un Tryz.prog .not v68).bind fun v => some (v, h68)) h68) fun v69 h69 =>
 (pickV v67 (.bool true) v69).bind fun v70 =>
 b2 (gOp v70 false (some (v62, h69)) h69) fun v71 h71 =>
 b2 (gOp v70 false ((un Tryz.prog .not v71).bind fun v => some (v, h71)) h71) fun v72 h72 =>
 (pickV v70 (.bool true) v72).bind fun v73 =>
 aIf v73
  (some (.ret, (f3_X_L0 s0 s3 s4 s5 (.bool false) s13 s14), h72))
  ((bin Tryz.prog .add 3 s16 (.int .i64 1)).bind fun v74 =>
  f3_L0 k s0 s1 s3 s4 s5 s13 s14 v74 n h72))
 (some ((.exit 0), (f3_X_L0 s0 s3 s4 s5 unk s13 s14), h34)) := by kernel_rfl
theorem f3_A0_x0 (k : Nat) (s0 s3 s4 s5 s12 s13 s14 : Value) (H : AH) : f3_A0 k (.exit 0) (f3_X_L0 s0 s3 s4 s5 s12 s13 s14) H =
(nilChk s14).bind fun v75 =>
(fldA Tryz.prog 32 v75 2).bind fun v76 =>
(ld Tryz.prog 29 H v76).bind fun v77 =>
b2 (rn k 11 [v77] H) fun v78 h78 =>
(ext v78 0).bind fun v79 =>
(ext v78 1).bind fun v80 =>
(nilChk s14).bind fun v81 =>
(fldA Tryz.prog 32 v81 3).bind fun v82 =>
(ld Tryz.prog 30 h78 v82).bind fun v83 =>
b2 (rn k 12 [v83] h78) fun v84 h84 =>
(ext v84 0).bind fun v85 =>
(ext v84 1).bind fun v86 =>
(nilChk s14).bind fun v87 =>
(fldA Tryz.prog 32 v87 2).bind fun v88 =>
(ld Tryz.prog 29 h84 v88).bind fun v89 =>
b2 (rn k 13 [v89, v79, s3, s4] h84) fun v90 h90 =>
(nilChk s14).bind fun v91 =>
(fldA Tryz.prog 32 v91 3).bind fun v92 =>
(ld Tryz.prog 30 h90 v92).bind fun v93 =>
b2 (rn k 14 [v93, v85, s3, s4] h90) fun v94 h94 =>
(nilChk s14).bind fun v95 =>
(fldA Tryz.prog 32 v95 2).bind fun v96 =>
(ld Tryz.prog 29 h94 v96).bind fun v97 =>
b2 (rn k 15 [v97, s5] h94) fun v98 h98 =>
(ext v98 0).bind fun v99 =>
(ext v98 1).bind fun v100 =>
(nilChk s14).bind fun v101 =>
(fldA Tryz.prog 32 v101 3).bind fun v102 =>
(ld Tryz.prog 30 h98 v102).bind fun v103 =>
b2 (rn k 16 [v103, s5] h98) fun v104 h104 =>
(ext v104 0).bind fun v105 =>
(ext v104 1).bind fun v106 =>
(nilChk s14).bind fun v107 =>
(fldA Tryz.prog 32 v107 2).bind fun v108 =>
(ld Tryz.prog 29 h104 v108).bind fun v109 =>
b2 (rn k 17 [v109, s5] h104) fun v110 h110 =>
(ext v110 0).bind fun v111 =>
(ext v110 1).bind fun v112 =>
(nilChk s14).bind fun v113 =>
(fldA Tryz.prog 32 v113 3).bind fun v114 =>
(ld Tryz.prog 30 h110 v114).bind fun v115 =>
b2 (rn k 18 [v115, s5] h110) fun v116 h116 =>
(ext v116 0).bind fun v117 =>
(ext v116 1).bind fun v118 =>
b2 (rn k 19 [v111, v117] h116) fun v119 h119 =>
b2 (gOp s13 true (some (v79, h119)) h119) fun v120 h120 =>
b2 (gOp s13 true (some (v85, h120)) h120) fun v121 h121 =>
b2 (gOp s13 true ((bin Tryz.prog .eql 3 v120 v121).bind fun v => some (v, h121)) h121) fun v122 h122 =>
(pickV s13 v122 (.bool false)).bind fun v123 =>
b2 (gOp v123 true (some (v80, h122)) h122) fun v124 h124 =>
b2 (gOp v123 true (some (v86, h124)) h124) fun v125 h125 =>
b2 (gOp v123 true ((bin Tryz.prog .eql 3 v124 v125).bind fun v => some (v, h125)) h125) fun v126 h126 =>
(pickV v123 v126 (.bool false)).bind fun v127 =>
b2 (gOp v127 true (some (v90, h126)) h126) fun v128 h128 =>
b2 (gOp v127 true (some (v94, h128)) h128) fun v129 h129 =>
b2 (gOp v127 true ((bin Tryz.prog .eql 3 v128 v129).bind fun v => some (v, h129)) h129) fun v130 h130 =>
(pickV v127 v130 (.bool false)).bind fun v131 =>
b2 (gOp v131 true (some (v99, h130)) h130) fun v132 h132 =>
b2 (gOp v131 true (some (v105, h132)) h132) fun v133 h133 =>
b2 (gOp v131 true ((bin Tryz.prog .eql 9 v132 v133).bind fun v => some (v, h133)) h133) fun v134 h134 =>
(pickV v131 v134 (.bool false)).bind fun v135 =>
b2 (gOp v135 true (some (v100, h134)) h134) fun v136 h136 =>
b2 (gOp v135 true (some (v106, h136)) h136) fun v137 h137 =>
b2 (gOp v135 true ((bin Tryz.prog .eql 3 v136 v137).bind fun v => some (v, h137)) h137) fun v138 h138 =>
(pickV v135 v138 (.bool false)).bind fun v139 =>
b2 (gOp v139 true (some (v119, h138)) h138) fun v140 h140 =>
(pickV v139 v140 (.bool false)).bind fun v141 =>
b2 (gOp v141 true (some (v112, h140)) h140) fun v142 h142 =>
b2 (gOp v141 true (some (v118, h142)) h142) fun v143 h143 =>
b2 (gOp v141 true ((bin Tryz.prog .eql 3 v142 v143).bind fun v => some (v, h143)) h143) fun v144 h144 =>
(pickV v141 v144 (.bool false)).bind fun v145 =>
b2 (gOp v145 true (some (s0, h144)) h144) fun v146 h146 =>
b2 (gOp v145 true (b2 (rn k 20 [v146] h146) fun v h => some (v, h)) h146) fun v147 h147 =>
b2 (gOp v145 true (some (s0, h147)) h147) fun v148 h148 =>
b2 (gOp v145 true (b2 (rn k 21 [v148] h148) fun v h => some (v, h)) h148) fun v149 h149 =>
b2 (gOp v145 true ((bin Tryz.prog .eql 3 v147 v149).bind fun v => some (v, h149)) h149) fun v150 h150 =>
(pickV v145 v150 (.bool false)).bind fun v151 =>
some (v151, h150) := by kernel_rfl
theorem f3_eq (k : Nat) (a0 a1 a2 a3 a4 a5 : Value) (H : AH) : rn (k + 1) 3 [a0, a1, a2, a3, a4, a5] H =
b2 (rn k 4 [] H) fun v1 h1 =>
(un Tryz.prog .not v1).bind fun v2 =>
aIf v2
 (some ((.bool false), h1))
 ((bin Tryz.prog .lss 3 a0 (.int .i64 0)).bind fun v3 =>
 aIf v3
  ((bin Tryz.prog .add 3 a0 (.int .i64 1)).bind fun v4 =>
  (un Tryz.prog .neg v4).bind fun v5 =>
  f3_J0 k v5 a1 a2 a3 a4 a5 v1 h1)
  (f3_J0 k a0 a1 a2 a3 a4 a5 v1 h1)) := by kernel_rfl
theorem f4_eq (k : Nat) (H : AH) : rn (k + 1) 4 [] H =
b2 (rn k 22 [(.int .i64 20)] H) fun v1 h1 =>
(ext v1 0).bind fun v2 =>
(ext v1 1).bind fun v3 =>
(bin Tryz.prog .eql 27 v2 (.pointer none)).bind fun v4 =>
b2 (gOp v4 false (some (v3, h1)) h1) fun v5 h5 =>
b2 (gOp v4 false ((bin Tryz.prog .neq 37 v5 (.int .i64 0)).bind fun v => some (v, h5)) h5) fun v6 h6 =>
(pickV v4 (.bool true) v6).bind fun v7 =>
aIf v7
 (some ((.bool false), h6))
 (b2 (rn k 23 [v2] h6) fun v8 h8 =>
 (ext v8 0).bind fun v9 =>
 (ext v8 1).bind fun v10 =>
 (bin Tryz.prog .eql 29 v9 (.pointer none)).bind fun v11 =>
 b2 (gOp v11 false (some (v10, h8)) h8) fun v12 h12 =>
 b2 (gOp v11 false ((bin Tryz.prog .neq 37 v12 (.int .i64 0)).bind fun v => some (v, h12)) h12) fun v13 h13 =>
 (pickV v11 (.bool true) v13).bind fun v14 =>
 aIf v14
  (some ((.bool false), h13))
  (b2 (mkS Tryz.prog 63 h13 (.int .i64 119) (.int .i64 119)) fun v15 h15 =>
  (cvS Tryz.prog 63 9 h15 v15).bind fun v16 =>
  (bin Tryz.prog .add 9 v16 (.string ⟨#[120]⟩)).bind fun v17 =>
  b2 (rn k 7 [v9, v17] h15) fun v18 h18 =>
  (ext v18 0).bind fun v19 =>
  (ext v18 1).bind fun v20 =>
  b2 (rn k 15 [v9, v19] h18) fun v21 h21 =>
  (ext v21 0).bind fun v22 =>
  (ext v21 1).bind fun v23 =>
  b2 (rn k 17 [v9, v19] h21) fun v24 h24 =>
  (ext v24 0).bind fun v25 =>
  (ext v24 1).bind fun v26 =>
  b2 (buildS Tryz.prog 51 h24 2 [(0, (.int .i64 2)), (1, (.int .i64 3))]) fun v27 h27 =>
  b2 (rn k 19 [v25, v27] h27) fun v28 h28 =>
  b2 (rn k 20 [(.int .i64 0)] h28) fun v29 h29 =>
  (bin Tryz.prog .eql 3 v29 (.int .i64 1)).bind fun v30 =>
  b2 (gOp v30 true (b2 (rn k 20 [(.int .i64 119)] h29) fun v h => some (v, h)) h29) fun v31 h31 =>
  b2 (gOp v30 true ((bin Tryz.prog .eql 3 v31 (.int .i64 2)).bind fun v => some (v, h31)) h31) fun v32 h32 =>
  (pickV v30 v32 (.bool false)).bind fun v33 =>
  b2 (gOp v33 true (some (v19, h32)) h32) fun v34 h34 =>
  b2 (gOp v33 true ((bin Tryz.prog .eql 3 v34 (.int .i64 2)).bind fun v => some (v, h34)) h34) fun v35 h35 =>
  (pickV v33 v35 (.bool false)).bind fun v36 =>
  b2 (gOp v36 true (some (v20, h35)) h35) fun v37 h37 =>
  b2 (gOp v36 true ((bin Tryz.prog .eql 37 v37 (.int .i64 0)).bind fun v => some (v, h37)) h37) fun v38 h38 =>
  (pickV v36 v38 (.bool false)).bind fun v39 =>
  b2 (gOp v39 true (some (v22, h38)) h38) fun v40 h40 =>
  b2 (gOp v39 true (some (v17, h40)) h40) fun v41 h41 =>
  b2 (gOp v39 true ((bin Tryz.prog .eql 9 v40 v41).bind fun v => some (v, h41)) h41) fun v42 h42 =>
  (pickV v39 v42 (.bool false)).bind fun v43 =>
  b2 (gOp v43 true (some (v23, h42)) h42) fun v44 h44 =>
  b2 (gOp v43 true ((bin Tryz.prog .eql 37 v44 (.int .i64 0)).bind fun v => some (v, h44)) h44) fun v45 h45 =>
  (pickV v43 v45 (.bool false)).bind fun v46 =>
  b2 (gOp v46 true (some (v28, h45)) h45) fun v47 h47 =>
  (pickV v46 v47 (.bool false)).bind fun v48 =>
  b2 (gOp v48 true (some (v26, h47)) h47) fun v49 h49 =>
  b2 (gOp v48 true ((bin Tryz.prog .eql 37 v49 (.int .i64 0)).bind fun v => some (v, h49)) h49) fun v50 h50 =>
  (pickV v48 v50 (.bool false)).bind fun v51 =>
  some (v51, h50))) := by kernel_rfl
theorem f5_eq (k : Nat) (a0 : Value) (H : AH) : rn (k + 1) 5 [a0] H =
(build Tryz.prog 32 []).bind fun v1 =>
b2 (box 32 H v1) fun v2 h2 =>
b2 (rn k 24 [a0] h2) fun v3 h3 =>
(ext v3 0).bind fun v4 =>
(ext v3 1).bind fun v5 =>
(ext v3 2).bind fun v6 =>
(nilChk v2).bind fun v7 =>
(fldA Tryz.prog 32 v7 0).bind fun v8 =>
(st Tryz.prog 27 h3 v8 v4).bind fun h9 =>
(nilChk v2).bind fun v10 =>
(fldA Tryz.prog 32 v10 1).bind fun v11 =>
(st Tryz.prog 28 h9 v11 v5).bind fun h12 =>
(un Tryz.prog .not v6).bind fun v13 =>
b2 (gOp v13 false (some (v2, h12)) h12) fun v14 h14 =>
b2 (gOp v13 false ((nilChk v14).bind fun v => some (v, h14)) h14) fun v15 h15 =>
b2 (gOp v13 false ((fldA Tryz.prog 32 v15 1).bind fun v => some (v, h15)) h15) fun v16 h16 =>
b2 (gOp v13 false ((ld Tryz.prog 28 h16 v16).bind fun v => some (v, h16)) h16) fun v17 h17 =>
b2 (gOp v13 false ((bin Tryz.prog .eql 28 v17 (.pointer none)).bind fun v => some (v, h17)) h17) fun v18 h18 =>
(pickV v13 (.bool true) v18).bind fun v19 =>
aIf v19
 ((un Tryz.prog .not v6).bind fun v20 =>
 b2 (gOp v20 true (some (v2, h18)) h18) fun v21 h21 =>
 b2 (gOp v20 true ((nilChk v21).bind fun v => some (v, h21)) h21) fun v22 h22 =>
 b2 (gOp v20 true ((fldA Tryz.prog 32 v22 1).bind fun v => some (v, h22)) h22) fun v23 h23 =>
 b2 (gOp v20 true ((ld Tryz.prog 28 h23 v23).bind fun v => some (v, h23)) h23) fun v24 h24 =>
 b2 (gOp v20 true ((bin Tryz.prog .eql 28 v24 (.pointer none)).bind fun v => some (v, h23)) h23) fun v25 h25 =>
 (pickV v20 v25 (.bool false)).bind fun v26 =>
 some ((.tuple #[(.pointer none), v26]), h25))
 ((nilChk v2).bind fun v27 =>
 (fldA Tryz.prog 32 v27 0).bind fun v28 =>
 (ld Tryz.prog 27 h18 v28).bind fun v29 =>
 b2 (rn k 23 [v29] h18) fun v30 h30 =>
 (ext v30 0).bind fun v31 =>
 (ext v30 1).bind fun v32 =>
 (nilChk v2).bind fun v33 =>
 (fldA Tryz.prog 32 v33 1).bind fun v34 =>
 (ld Tryz.prog 28 h30 v34).bind fun v35 =>
 b2 (rn k 25 [v35] h30) fun v36 h36 =>
 (ext v36 0).bind fun v37 =>
 (ext v36 1).bind fun v38 =>
 b2 (rn k 26 [v2, v31, v32, v37, v38] h36) fun v39 h39 =>
 some ((.tuple #[v2, v39]), h39)) := by kernel_rfl
theorem f6_eq (k : Nat) (a0 a1 : Value) (H : AH) : rn (k + 1) 6 [a0, a1] H =
(fold1 maxV [a1, (.int .i64 (-1))]).bind fun v1 =>
(nilChk a0).bind fun v2 =>
(fldA Tryz.prog 71 v2 2).bind fun v3 =>
(st Tryz.prog 3 H v3 v1).bind fun h4 =>
some ((.tuple #[]), h4) := by kernel_rfl
theorem f7_eq (k : Nat) (a0 a1 : Value) (H : AH) : rn (k + 1) 7 [a0, a1] H =
(lenV Tryz.prog 9 a1).bind fun v1 =>
(bin Tryz.prog .gtr 3 v1 (.int .i64 60000)).bind fun v2 =>
aIf v2
 (some ((.tuple #[(.int .i64 0), (.int .i64 1)]), H))
 (b2 (rn k 27 [a0] H) fun v3 h3 =>
 (lenV Tryz.prog 51 v3).bind fun v4 =>
 b2 (rn k 28 [a0, a1] h3) fun v5 h5 =>
 (ext v5 0).bind fun v6 =>
 (ext v5 1).bind fun v7 =>
 (bin Tryz.prog .neq 37 v7 (.int .i64 0)).bind fun v8 =>
 aIf v8
  (b2 (rn k 29 [a0, v4] h5) fun v9 h9 =>
  some ((.tuple #[(.int .i64 0), v7]), h9))
  ((ixA Tryz.prog 51 v6 (.int .i64 0)).bind fun v10 =>
  (ld Tryz.prog 3 h5 v10).bind fun v11 =>
  some ((.tuple #[v11, (.int .i64 0)]), h5))) := by kernel_rfl
abbrev f8_T_L0 (s0 s1 s6 s7 s8 : Value) : List Value := [s0, s1, unk, unk, unk, unk, s6, s7, s8] ++ List.replicate 86 unk
abbrev f8_X_L0 (s0 s1 s4 s5 s6 s7 : Value) : List Value := [s0, s1, unk, unk, s4, s5, s6, s7] ++ List.replicate 87 unk
abbrev f8_T_L1 (s0 s1 s6 s7 s11 : Value) : List Value := [s0, s1, unk, unk, unk, unk, s6, s7, unk, unk, unk, s11] ++ List.replicate 83 unk
abbrev f8_X_L1 (s4 s5 s7 : Value) : List Value := [unk, unk, unk, unk, s4, s5, unk, s7] ++ List.replicate 87 unk
abbrev f8_T_J0 (s0 s1 s6 s7 s11 s12 : Value) : List Value := [s0, s1, unk, unk, unk, unk, s6, s7, unk, unk, unk, s11, s12] ++ List.replicate 82 unk
@[irreducible] def f8_L0 (k : Nat) (s0 s1 s6 s7 s8 : Value) (n : Nat) (H : AH) : Option Out := iterD (fun T H K => evalK Tryz.prog (rn k) k (tbs 8) (codeAt (bodyOf Tryz.f8) [1, 1, 1, 1, 0, 1, 0, 0]) T H K) (cutT (tbs 8) 19) (cutT (tbs 8) 20) n (f8_T_L0 s0 s1 s6 s7 s8) H
@[irreducible] def f8_A0 (k : Nat) (e : EX) (T : List Value) (H : AH) : Option (Value × AH) := resume Tryz.prog (rn k) k (tbs 8) (bodyOf Tryz.f8) [1, 1, 1, 1, 0, 1, 0] e T H (resK Tryz.prog Tryz.f8.results.toList)
@[irreducible] def f8_L1 (k : Nat) (s0 s1 s6 s7 s11 : Value) (n : Nat) (H : AH) : Option Out := iterD (fun T H K => evalK Tryz.prog (rn k) k (tbs 8) (codeAt (bodyOf Tryz.f8) [1, 1, 1, 1, 1, 0, 1, 0, 0]) T H K) (cutT (tbs 8) 43) (cutT (tbs 8) 44) n (f8_T_L1 s0 s1 s6 s7 s11) H
@[irreducible] def f8_A1 (k : Nat) (e : EX) (T : List Value) (H : AH) : Option (Value × AH) := resume Tryz.prog (rn k) k (tbs 8) (bodyOf Tryz.f8) [1, 1, 1, 1, 1, 0, 1, 0] e T H (resK Tryz.prog Tryz.f8.results.toList)
@[irreducible] def f8_J0 (k : Nat) (n : Nat) (s0 s1 s6 s7 s11 s12 : Value) (H : AH) : Option Out := resume Tryz.prog (rn k) k (tbs 8) (codeAt (bodyOf Tryz.f8) [1, 1, 1, 1, 1, 0, 1, 0, 0]) [1, 0, 0, 1, 0] .normal (f8_T_J0 s0 s1 s6 s7 s11 s12) H (loopK (iterD (fun T H K => evalK Tryz.prog (rn k) k (tbs 8) (codeAt (bodyOf Tryz.f8) [1, 1, 1, 1, 1, 0, 1, 0, 0]) T H K) (cutT (tbs 8) 43) (cutT (tbs 8) 44) n) (cutT (tbs 8) 43) (cutT (tbs 8) 44))
theorem f8_L0_succ (k : Nat) (s0 s1 s6 s7 s8 : Value) (n : Nat) (H : AH) : f8_L0 k s0 s1 s6 s7 s8 (n + 1) H =
(lenV Tryz.prog 9 s1).bind fun v7 =>
b2 (rn k 21 [v7] H) fun v8 h8 =>
(bin Tryz.prog .lss 3 s8 v8).bind fun v9 =>
aIf v9
 (b2 (rn k 12 [s0] h8) fun v10 h10 =>
 (ext v10 0).bind fun v11 =>
 (ext v10 1).bind fun v12 =>
 (bin Tryz.prog .neq 3 v12 (.int .i64 0)).bind fun v13 =>
 aIf v13
  (b2 (rn k 30 [s0, s6] h10) fun v14 h14 =>
  some (.ret, (f8_X_L0 s0 s1 (.int .i64 0) v12 s6 s7), h14))
  (b2 (buildS Tryz.prog 51 h10 1 [(0, v11)]) fun v15 h15 =>
  b2 (ap Tryz.prog 51 51 h15 s7 v15) fun v16 h16 =>
  (bin Tryz.prog .add 3 s8 (.int .i64 1)).bind fun v17 =>
  f8_L0 k s0 s1 s6 v16 v17 n h16))
 (some ((.exit 0), (f8_X_L0 s0 s1 unk unk s6 s7), h8)) := by kernel_rfl
theorem f8_A0_x0 (k : Nat) (s0 s1 s4 s5 s6 s7 : Value) (H : AH) : f8_A0 k (.exit 0) (f8_X_L0 s0 s1 s4 s5 s6 s7) H =
(f8_L1 k s0 s1 s6 s7 (.int .i64 0) k H).bind fun p => f8_A1 k p.1 p.2.1 p.2.2 := by kernel_rfl
theorem f8_A0_ret (k : Nat) (s0 s1 s4 s5 s6 s7 : Value) (H : AH) : f8_A0 k .ret (f8_X_L0 s0 s1 s4 s5 s6 s7) H =
some ((.tuple #[s4, s5]), H) := by kernel_rfl
theorem f8_L1_succ (k : Nat) (s0 s1 s6 s7 s11 : Value) (n : Nat) (H : AH) : f8_L1 k s0 s1 s6 s7 s11 (n + 1) H =
(lenV Tryz.prog 51 s7).bind fun v18 =>
(bin Tryz.prog .lss 3 s11 v18).bind fun v19 =>
aIf v19
 ((bin Tryz.prog .add 3 s11 (.int .i64 1)).bind fun v20 =>
 (lenV Tryz.prog 51 s7).bind fun v21 =>
 (bin Tryz.prog .lss 3 v20 v21).bind fun v22 =>
 aIf v22
  ((bin Tryz.prog .add 3 s11 (.int .i64 1)).bind fun v23 =>
  (ixA Tryz.prog 51 s7 v23).bind fun v24 =>
  (ld Tryz.prog 3 H v24).bind fun v25 =>
  f8_J0 k n s0 s1 s6 s7 s11 v25 H)
  (f8_J0 k n s0 s1 s6 s7 s11 (.int .i64 0) H))
 (some ((.exit 2), (f8_X_L1 unk unk s7), H)) := by kernel_rfl
theorem f8_A1_x2 (k : Nat) (s4 s5 s7 : Value) (H : AH) : f8_A1 k (.exit 2) (f8_X_L1 s4 s5 s7) H =
(ixA Tryz.prog 51 s7 (.int .i64 0)).bind fun v26 =>
(ld Tryz.prog 3 H v26).bind fun v27 =>
some ((.tuple #[v27, (.int .i64 0)]), H) := by kernel_rfl
theorem f8_A1_ret (k : Nat) (s4 s5 s7 : Value) (H : AH) : f8_A1 k .ret (f8_X_L1 s4 s5 s7) H =
some ((.tuple #[s4, s5]), H) := by kernel_rfl
theorem f8_J0_eq (k : Nat) (n : Nat) (s0 s1 s6 s7 s11 s12 : Value) (H : AH) : f8_J0 k n s0 s1 s6 s7 s11 s12 H =
(bin Tryz.prog .mul 3 (.int .i64 118) s11).bind fun v28 =>
(lenV Tryz.prog 9 s1).bind fun v29 =>
(bin Tryz.prog .add 3 s11 (.int .i64 1)).bind fun v30 =>
(bin Tryz.prog .mul 3 (.int .i64 118) v30).bind fun v31 =>
(fold1 minV [v29, v31]).bind fun v32 =>
(slc Tryz.prog 9 s1 (some v28) (some v32)).bind fun v33 =>
(ixA Tryz.prog 51 s7 s11).bind fun v34 =>
(ld Tryz.prog 3 H v34).bind fun v35 =>
(bin Tryz.prog .shr 3 s12 (.int .u64 8)).bind fun v36 =>
(cv Tryz.prog 3 5 v36).bind fun v37 =>
(cv Tryz.prog 3 5 s12).bind fun v38 =>
b2 (buildS Tryz.prog 63 H 2 [(0, v37), (1, v38)]) fun v39 h39 =>
(cvS Tryz.prog 63 9 h39 v39).bind fun v40 =>
(bin Tryz.prog .add 9 v40 v33).bind fun v41 =>
b2 (rn k 14 [s0, v35, (.int .i64 2), v41] h39) fun v42 h42 =>
(bin Tryz.prog .neq 3 v42 (.int .i64 0)).bind fun v43 =>
aIf v43
 (b2 (rn k 30 [s0, s6] h42) fun v44 h44 =>
 some (.ret, (f8_X_L1 (.int .i64 0) v42 s7), h44))
 ((bin Tryz.prog .add 3 s11 (.int .i64 1)).bind fun v45 =>
 f8_L1 k s0 s1 s6 s7 v45 n h42) := by kernel_rfl
theorem f8_eq (k : Nat) (a0 a1 : Value) (H : AH) : rn (k + 1) 8 [a0, a1] H =
(lenV Tryz.prog 9 a1).bind fun v1 =>
(bin Tryz.prog .gtr 3 v1 (.int .i64 60000)).bind fun v2 =>
aIf v2
 (some ((.tuple #[(.int .i64 0), (.int .i64 1)]), H))
 ((nilChk a0).bind fun v3 =>
 (fldA Tryz.prog 76 v3 4).bind fun v4 =>
 (ld Tryz.prog 51 H v4).bind fun v5 =>
 (lenV Tryz.prog 51 v5).bind fun v6 =>
 (f8_L0 k a0 a1 v6 (.slice none 0 0) (.int .i64 0) k H).bind fun p => f8_A0 k p.1 p.2.1 p.2.2) := by kernel_rfl
abbrev f9_T_L0 (s0 s1 s5 : Value) : List Value := [s0, s1, unk, unk, unk, s5] ++ List.replicate 67 unk
abbrev f9_X_L0 (s4 : Value) : List Value := [unk, unk, unk, unk, s4] ++ List.replicate 68 unk
@[irreducible] def f9_L0 (k : Nat) (s0 s1 s5 : Value) (n : Nat) (H : AH) : Option Out := iterD (fun T H K => evalK Tryz.prog (rn k) k (tbs 9) (codeAt (bodyOf Tryz.f9) [1, 1, 0, 1, 0, 0]) T H K) (cutT (tbs 9) 13) (cutT (tbs 9) 14) n (f9_T_L0 s0 s1 s5) H
@[irreducible] def f9_A0 (k : Nat) (e : EX) (T : List Value) (H : AH) : Option (Value × AH) := resume Tryz.prog (rn k) k (tbs 9) (bodyOf Tryz.f9) [1, 1, 0, 1, 0] e T H (resK Tryz.prog Tryz.f9.results.toList)
theorem f9_L0_succ (k : Nat) (s0 s1 s5 : Value) (n : Nat) (H : AH) : f9_L0 k s0 s1 s5 (n + 1) H =
(nilChk s1).bind fun v24 =>
(fldA Tryz.prog 36 v24 0).bind fun v25 =>
(ld Tryz.prog 22 H v25).bind fun v26 =>
(lenV Tryz.prog 22 v26).bind fun v27 =>
(bin Tryz.prog .lss 3 s5 v27).bind fun v28 =>
b2 (gOp v28 true (some (s1, H)) H) fun v29 h29 =>
b2 (gOp v28 true ((nilChk v29).bind fun v => some (v, h29)) h29) fun v30 h30 =>
b2 (gOp v28 true ((fldA Tryz.prog 36 v30 3).bind fun v => some (v, h30)) h30) fun v31 h31 =>
b2 (gOp v28 true ((ld Tryz.prog 4 h31 v31).bind fun v => some (v, h31)) h31) fun v32 h32 =>
b2 (gOp v28 true ((un Tryz.prog .not v32).bind fun v => some (v, h32)) h32) fun v33 h33 =>
(pickV v28 v33 (.bool false)).bind fun v34 =>
aIf v34
 (b2 (rn k 34 [s0, s5] h33) fun v35 h35 =>
 (ext v35 0).bind fun v36 =>
 (ext v35 1).bind fun v37 =>
 b2 (rn k 35 [s1, s5] h35) fun v38 h38 =>
 (ext v38 0).bind fun v39 =>
 (ext v38 1).bind fun v40 =>
 (bin Tryz.prog .neq 9 v36 v39).bind fun v41 =>
 b2 (gOp v41 false (some (v37, h38)) h38) fun v42 h42 =>
 b2 (gOp v41 false (some (v40, h42)) h42) fun v43 h43 =>
 b2 (gOp v41 false ((bin Tryz.prog .neq 3 v42 v43).bind fun v => some (v, h43)) h43) fun v44 h44 =>
 (pickV v41 (.bool true) v44).bind fun v45 =>
 aIf v45
  (some (.ret, (f9_X_L0 (.bool false)), h44))
  ((bin Tryz.prog .add 3 s5 (.int .i64 1)).bind fun v46 =>
  f9_L0 k s0 s1 v46 n h44))
 (some ((.exit 0), (f9_X_L0 unk), h33)) := by kernel_rfl
theorem f9_A0_x0 (k : Nat) (s4 : Value) (H : AH) : f9_A0 k (.exit 0) (f9_X_L0 s4) H =
some ((.bool true), H) := by kernel_rfl
theorem f9_eq (k : Nat) (a0 a1 : Value) (H : AH) : rn (k + 1) 9 [a0, a1] H =
b2 (rn k 31 [a0] H) fun v1 h1 =>
(nilChk a1).bind fun v2 =>
(fldA Tryz.prog 36 v2 3).bind fun v3 =>
(ld Tryz.prog 4 h1 v3).bind fun v4 =>
aChk (ld Tryz.prog 4 H v3 = some v4) <|
(bin Tryz.prog .neq 4 v1 v4).bind fun v5 =>
b2 (gOp v5 false (some (a0, h1)) h1) fun v6 h6 =>
b2 (gOp v5 false (b2 (rn k 32 [v6] h6) fun v h => some (v, h)) h6) fun v7 h7 =>
b2 (gOp v5 false (some (a1, h7)) h7) fun v8 h8 =>
b2 (gOp v5 false ((nilChk v8).bind fun v => some (v, h8)) h8) fun v9 h9 =>
b2 (gOp v5 false ((fldA Tryz.prog 36 v9 0).bind fun v => some (v, h9)) h9) fun v10 h10 =>
b2 (gOp v5 false ((ld Tryz.prog 22 h10 v10).bind fun v => some (v, h10)) h10) fun v11 h11 =>
aChk (v5 = .bool false → ld Tryz.prog 22 h6 v10 = some v11) <|
b2 (gOp v5 false ((lenV Tryz.prog 22 v11).bind fun v => some (v, h10)) h10) fun v12 h12 =>
b2 (gOp v5 false ((bin Tryz.prog .neq 3 v7 v12).bind fun v => some (v, h12)) h12) fun v13 h13 =>
(pickV v5 (.bool true) v13).bind fun v14 =>
b2 (gOp v14 false (some (a0, h13)) h13) fun v15 h15 =>
b2 (gOp v14 false (b2 (rn k 33 [v15] h15) fun v h => some (v, h)) h15) fun v16 h16 =>
b2 (gOp v14 false (some (a1, h16)) h16) fun v17 h17 =>
b2 (gOp v14 false ((nilChk v17).bind fun v => some (v, h17)) h17) fun v18 h18 =>
b2 (gOp v14 false ((fldA Tryz.prog 36 v18 1).bind fun v => some (v, h18)) h18) fun v19 h19 =>
b2 (gOp v14 false ((ld Tryz.prog 34 h19 v19).bind fun v => some (v, h19)) h19) fun v20 h20 =>
aChk (v14 = .bool false → ld Tryz.prog 34 h15 v19 = some v20) <|
b2 (gOp v14 false ((lenV Tryz.prog 34 v20).bind fun v => some (v, h19)) h19) fun v21 h21 =>
b2 (gOp v14 false ((bin Tryz.prog .neq 3 v16 v21).bind fun v => some (v, h21)) h21) fun v22 h22 =>
(pickV v14 (.bool true) v22).bind fun v23 =>
aIf v23
 (some ((.bool false), h22))
 ((f9_L0 k a0 a1 (.int .i64 0) k h22).bind fun p => f9_A0 k p.1 p.2.1 p.2.2) := by kernel_rfl
theorem f10_eq (k : Nat) (a0 : Value) (H : AH) : rn (k + 1) 10 [a0] H =
(nilChk a0).bind fun v1 =>
(fldA Tryz.prog 32 v1 2).bind fun v2 =>
(ld Tryz.prog 29 H v2).bind fun v3 =>
(bin Tryz.prog .eql 29 v3 (.pointer none)).bind fun v4 =>
(nilChk a0).bind fun v5 =>
(fldA Tryz.prog 32 v5 3).bind fun v6 =>
(ld Tryz.prog 30 H v6).bind fun v7 =>
(bin Tryz.prog .eql 30 v7 (.pointer none)).bind fun v8 =>
(bin Tryz.prog .neq 4 v4 v8).bind fun v9 =>
aIf v9
 (some ((.bool false), H))
 ((nilChk a0).bind fun v10 =>
 (fldA Tryz.prog 32 v10 2).bind fun v11 =>
 (ld Tryz.prog 29 H v11).bind fun v12 =>
 (bin Tryz.prog .eql 29 v12 (.pointer none)).bind fun v13 =>
 aIf v13
  (some ((.bool true), H))
  ((nilChk a0).bind fun v14 =>
  (fldA Tryz.prog 32 v14 2).bind fun v15 =>
  (ld Tryz.prog 29 H v15).bind fun v16 =>
  b2 (rn k 36 [v16] H) fun v17 h17 =>
  (nilChk a0).bind fun v18 =>
  (fldA Tryz.prog 32 v18 3).bind fun v19 =>
  (ld Tryz.prog 30 h17 v19).bind fun v20 =>
  aChk (ld Tryz.prog 30 H v19 = some v20) <|
  b2 (rn k 37 [v20] h17) fun v21 h21 =>
  b2 (rn k 19 [v17, v21] h21) fun v22 h22 =>
  (nilChk a0).bind fun v23 =>
  (fldA Tryz.prog 32 v23 2).bind fun v24 =>
  (ld Tryz.prog 29 h22 v24).bind fun v25 =>
  b2 (rn k 27 [v25] h22) fun v26 h26 =>
  (nilChk a0).bind fun v27 =>
  (fldA Tryz.prog 32 v27 3).bind fun v28 =>
  (ld Tryz.prog 30 h26 v28).bind fun v29 =>
  aChk (ld Tryz.prog 30 h22 v28 = some v29) <|
  (nilChk v29).bind fun v30 =>
  (fldA Tryz.prog 76 v30 4).bind fun v31 =>
  (ld Tryz.prog 51 h26 v31).bind fun v32 =>
  aChk (ld Tryz.prog 51 h22 v31 = some v32) <|
  b2 (rn k 19 [v26, v32] h26) fun v33 h33 =>
  b2 (gOp v22 true (some (v33, h33)) h33) fun v34 h34 =>
  (pickV v22 v34 (.bool false)).bind fun v35 =>
  b2 (gOp v35 true (some (a0, h34)) h34) fun v36 h36 =>
  b2 (gOp v35 true ((nilChk v36).bind fun v => some (v, h36)) h36) fun v37 h37 =>
  b2 (gOp v35 true ((fldA Tryz.prog 32 v37 2).bind fun v => some (v, h37)) h37) fun v38 h38 =>
  b2 (gOp v35 true ((ld Tryz.prog 29 h38 v38).bind fun v => some (v, h38)) h38) fun v39 h39 =>
  b2 (gOp v35 true (b2 (rn k 38 [v39] h38) fun v h => some (v, h)) h38) fun v40 h40 =>
  b2 (gOp v35 true (some (a0, h40)) h40) fun v41 h41 =>
  b2 (gOp v35 true ((nilChk v41).bind fun v => some (v, h41)) h41) fun v42 h42 =>
  b2 (gOp v35 true ((fldA Tryz.prog 32 v42 3).bind fun v => some (v, h42)) h42) fun v43 h43 =>
  b2 (gOp v35 true ((ld Tryz.prog 30 h43 v43).bind fun v => some (v, h43)) h43) fun v44 h44 =>
  aChk (v35 = .bool true → ld Tryz.prog 30 h38 v43 = some v44) <|
  b2 (gOp v35 true ((nilChk v44).bind fun v => some (v, h43)) h43) fun v45 h45 =>
  b2 (gOp v35 true ((fldA Tryz.prog 76 v45 2).bind fun v => some (v, h45)) h45) fun v46 h46 =>
  b2 (gOp v35 true ((ld Tryz.prog 3 h46 v46).bind fun v => some (v, h46)) h46) fun v47 h47 =>
  aChk (v35 = .bool true → ld Tryz.prog 3 h38 v46 = some v47) <|
  b2 (gOp v35 true ((bin Tryz.prog .eql 3 v40 v47).bind fun v => some (v, h46)) h46) fun v48 h48 =>
  (pickV v35 v48 (.bool false)).bind fun v49 =>
  b2 (gOp v49 true (some (a0, h48)) h48) fun v50 h50 =>
  b2 (gOp v49 true ((nilChk v50).bind fun v => some (v, h50)) h50) fun v51 h51 =>
  b2 (gOp v49 true ((fldA Tryz.prog 32 v51 2).bind fun v => some (v, h51)) h51) fun v52 h52 =>
  b2 (gOp v49 true ((ld Tryz.prog 29 h52 v52).bind fun v => some (v, h52)) h52) fun v53 h53 =>
  b2 (gOp v49 true (b2 (rn k 39 [v53] h52) fun v h => some (v, h)) h52) fun v54 h54 =>
  b2 (gOp v49 true (some (a0, h54)) h54) fun v55 h55 =>
  b2 (gOp v49 true ((nilChk v55).bind fun v => some (v, h55)) h55) fun v56 h56 =>
  b2 (gOp v49 true ((fldA Tryz.prog 32 v56 3).bind fun v => some (v, h56)) h56) fun v57 h57 =>
  b2 (gOp v49 true ((ld Tryz.prog 30 h57 v57).bind fun v => some (v, h57)) h57) fun v58 h58 =>
  aChk (v49 = .bool true → ld Tryz.prog 30 h52 v57 = some v58) <|
  b2 (gOp v49 true ((nilChk v58).bind fun v => some (v, h57)) h57) fun v59 h59 =>
  b2 (gOp v49 true ((fldA Tryz.prog 76 v59 1).bind fun v => some (v, h59)) h59) fun v60 h60 =>
  b2 (gOp v49 true ((ld Tryz.prog 3 h60 v60).bind fun v => some (v, h60)) h60) fun v61 h61 =>
  aChk (v49 = .bool true → ld Tryz.prog 3 h52 v60 = some v61) <|
  b2 (gOp v49 true ((bin Tryz.prog .eql 3 v54 v61).bind fun v => some (v, h60)) h60) fun v62 h62 =>
  (pickV v49 v62 (.bool false)).bind fun v63 =>
  b2 (gOp v63 true (some (a0, h62)) h62) fun v64 h64 =>
  b2 (gOp v63 true ((nilChk v64).bind fun v => some (v, h64)) h64) fun v65 h65 =>
  b2 (gOp v63 true ((fldA Tryz.prog 32 v65 2).bind fun v => some (v, h65)) h65) fun v66 h66 =>
  b2 (gOp v63 true ((ld Tryz.prog 29 h66 v66).bind fun v => some (v, h66)) h66) fun v67 h67 =>
  b2 (gOp v63 true (b2 (rn k 40 [v67] h66) fun v h => some (v, h)) h66) fun v68 h68 =>
  b2 (gOp v63 true (some (a0, h68)) h68) fun v69 h69 =>
  b2 (gOp v63 true ((nilChk v69).bind fun v => some (v, h69)) h69) fun v70 h70 =>
  b2 (gOp v63 true ((fldA Tryz.prog 32 v70 3).bind fun v => some (v, h70)) h70) fun v71 h71 =>
  b2 (gOp v63 true ((ld Tryz.prog 30 h71 v71).bind fun v => some (v, h71)) h71) fun v72 h72 =>
  aChk (v63 = .bool true → ld Tryz.prog 30 h66 v71 = some v72) <|
  b2 (gOp v63 true ((nilChk v72).bind fun v => some (v, h71)) h71) fun v73 h73 =>
  b2 (gOp v63 true ((fldA Tryz.prog 76 v73 5).bind fun v => some (v, h73)) h73) fun v74 h74 =>
  b2 (gOp v63 true ((ld Tryz.prog 4 h74 v74).bind fun v => some (v, h74)) h74) fun v75 h75 =>
  aChk (v63 = .bool true → ld Tryz.prog 4 h66 v74 = some v75) <|
  b2 (gOp v63 true ((bin Tryz.prog .eql 4 v68 v75).bind fun v => some (v, h74)) h74) fun v76 h76 =>
  (pickV v63 v76 (.bool false)).bind fun v77 =>
  b2 (gOp v77 true (some (a0, h76)) h76) fun v78 h78 =>
  b2 (gOp v77 true ((nilChk v78).bind fun v => some (v, h78)) h78) fun v79 h79 =>
  b2 (gOp v77 true ((fldA Tryz.prog 32 v79 2).bind fun v => some (v, h79)) h79) fun v80 h80 =>
  b2 (gOp v77 true ((ld Tryz.prog 29 h80 v80).bind fun v => some (v, h80)) h80) fun v81 h81 =>
  b2 (gOp v77 true (b2 (rn k 41 [v81] h80) fun v h => some (v, h)) h80) fun v82 h82 =>
  b2 (gOp v77 true (some (a0, h82)) h82) fun v83 h83 =>
  b2 (gOp v77 true ((nilChk v83).bind fun v => some (v, h83)) h83) fun v84 h84 =>
  b2 (gOp v77 true ((fldA Tryz.prog 32 v84 3).bind fun v => some (v, h84)) h84) fun v85 h85 =>
  b2 (gOp v77 true ((ld Tryz.prog 30 h85 v85).bind fun v => some (v, h85)) h85) fun v86 h86 =>
  aChk (v77 = .bool true → ld Tryz.prog 30 h80 v85 = some v86) <|
  b2 (gOp v77 true ((nilChk v86).bind fun v => some (v, h85)) h85) fun v87 h87 =>
  b2 (gOp v77 true ((fldA Tryz.prog 76 v87 3).bind fun v => some (v, h87)) h87) fun v88 h88 =>
  b2 (gOp v77 true ((ld Tryz.prog 74 h88 v88).bind fun v => some (v, h88)) h88) fun v89 h89 =>
  aChk (v77 = .bool true → ld Tryz.prog 74 h80 v88 = some v89) <|
  b2 (gOp v77 true ((lenV Tryz.prog 74 v89).bind fun v => some (v, h88)) h88) fun v90 h90 =>
  b2 (gOp v77 true ((bin Tryz.prog .eql 3 v82 v90).bind fun v => some (v, h90)) h90) fun v91 h91 =>
  (pickV v77 v91 (.bool false)).bind fun v92 =>
  some (v92, h91))) := by kernel_rfl
abbrev f11_T_L0 (s0 s10 s11 : Value) : List Value := [s0] ++ List.replicate 9 unk ++ [s10, s11] ++ List.replicate 31 unk
abbrev f11_X_L0 (s2 s3 : Value) : List Value := [unk, unk, s2, s3] ++ List.replicate 39 unk
@[irreducible] def f11_L0 (k : Nat) (s0 s10 s11 : Value) (n : Nat) (H : AH) : Option Out := iterD (fun T H K => evalK Tryz.prog (rn k) k (tbs 11) (codeAt (bodyOf Tryz.f11) [1, 1, 0, 1, 0, 0]) T H K) (cutT (tbs 11) 13) (cutT (tbs 11) 14) n (f11_T_L0 s0 s10 s11) H
@[irreducible] def f11_A0 (k : Nat) (e : EX) (T : List Value) (H : AH) : Option (Value × AH) := resume Tryz.prog (rn k) k (tbs 11) (bodyOf Tryz.f11) [1, 1, 0, 1, 0] e T H (resK Tryz.prog Tryz.f11.results.toList)
theorem f11_L0_succ (k : Nat) (s0 s10 s11 : Value) (n : Nat) (H : AH) : f11_L0 k s0 s10 s11 (n + 1) H =
(bin Tryz.prog .lss 3 s11 s10).bind fun v5 =>
aIf v5
 ((nilChk s0).bind fun v6 =>
 (fldA Tryz.prog 85 v6 0).bind fun v7 =>
 (fldA Tryz.prog 83 v7 2).bind fun v8 =>
 (ld Tryz.prog 81 H v8).bind fun v9 =>
 (lkU Tryz.prog 81 H v9 s11 false).bind fun v10 =>
 (un Tryz.prog .not v10).bind fun v11 =>
 b2 (gOp v11 true (some (s0, H)) H) fun v12 h12 =>
 b2 (gOp v11 true ((nilChk v12).bind fun v => some (v, h12)) h12) fun v13 h13 =>
 b2 (gOp v11 true ((fldA Tryz.prog 85 v13 2).bind fun v => some (v, h13)) h13) fun v14 h14 =>
 b2 (gOp v11 true ((ld Tryz.prog 51 h14 v14).bind fun v => some (v, h14)) h14) fun v15 h15 =>
 b2 (gOp v11 true (some (s11, h15)) h15) fun v16 h16 =>
 b2 (gOp v11 true (b2 (rn k 42 [v15, v16] h16) fun v h => some (v, h)) h16) fun v17 h17 =>
 b2 (gOp v11 true ((un Tryz.prog .not v17).bind fun v => some (v, h17)) h17) fun v18 h18 =>
 (pickV v11 v18 (.bool false)).bind fun v19 =>
 aIf v19
  ((nilChk s0).bind fun v20 =>
  (fldA Tryz.prog 85 v20 2).bind fun v21 =>
  (ld Tryz.prog 51 h18 v21).bind fun v22 =>
  b2 (buildS Tryz.prog 51 h18 1 [(0, s11)]) fun v23 h23 =>
  b2 (ap Tryz.prog 51 51 h23 v22 v23) fun v24 h24 =>
  (nilChk s0).bind fun v25 =>
  (fldA Tryz.prog 85 v25 2).bind fun v26 =>
  (st Tryz.prog 51 h24 v26 v24).bind fun h27 =>
  some (.ret, (f11_X_L0 s11 (.int .i64 0)), h27))
  ((bin Tryz.prog .add 3 s11 (.int .i64 1)).bind fun v28 =>
  f11_L0 k s0 s10 v28 n h18))
 (some ((.exit 0), (f11_X_L0 unk unk), H)) := by kernel_rfl
theorem f11_A0_x0 (k : Nat) (s2 s3 : Value) (H : AH) : f11_A0 k (.exit 0) (f11_X_L0 s2 s3) H =
some ((.tuple #[(.int .i64 0), (.int .i64 6)]), H) := by kernel_rfl
theorem f11_A0_ret (k : Nat) (s2 s3 : Value) (H : AH) : f11_A0 k .ret (f11_X_L0 s2 s3) H =
some ((.tuple #[s2, s3]), H) := by kernel_rfl
theorem f11_eq (k : Nat) (a0 : Value) (H : AH) : rn (k + 1) 11 [a0] H =
(nilChk a0).bind fun v1 =>
(fldA Tryz.prog 85 v1 3).bind fun v2 =>
(ld Tryz.prog 4 H v2).bind fun v3 =>
aIf v3
 (some ((.tuple #[(.int .i64 0), (.int .i64 7)]), H))
 (b2 (rn k 41 [a0] H) fun v4 h4 =>
 (f11_L0 k a0 v4 (.int .i64 0) k h4).bind fun p => f11_A0 k p.1 p.2.1 p.2.2) := by kernel_rfl
abbrev f12_T_L0 (s0 s4 : Value) : List Value := [s0, unk, unk, unk, s4] ++ List.replicate 52 unk
abbrev f12_X_L0 (s2 s3 : Value) : List Value := [unk, unk, s2, s3] ++ List.replicate 53 unk
@[irreducible] def f12_L0 (k : Nat) (s0 s4 : Value) (n : Nat) (H : AH) : Option Out := iterD (fun T H K => evalK Tryz.prog (rn k) k (tbs 12) (codeAt (bodyOf Tryz.f12) [1, 1, 0, 1, 0, 0]) T H K) (cutT (tbs 12) 13) (cutT (tbs 12) 14) n (f12_T_L0 s0 s4) H
@[irreducible] def f12_A0 (k : Nat) (e : EX) (T : List Value) (H : AH) : Option (Value × AH) := resume Tryz.prog (rn k) k (tbs 12) (bodyOf Tryz.f12) [1, 1, 0, 1, 0] e T H (resK Tryz.prog Tryz.f12.results.toList)
theorem f12_L0_succ (k : Nat) (s0 s4 : Value) (n : Nat) (H : AH) : f12_L0 k s0 s4 (n + 1) H =
(nilChk s0).bind fun v4 =>
(fldA Tryz.prog 76 v4 3).bind fun v5 =>
(ld Tryz.prog 74 H v5).bind fun v6 =>
(lenV Tryz.prog 74 v6).bind fun v7 =>
(bin Tryz.prog .lss 3 s4 v7).bind fun v8 =>
aIf v8
 ((nilChk s0).bind fun v9 =>
 (fldA Tryz.prog 76 v9 3).bind fun v10 =>
 (ld Tryz.prog 74 H v10).bind fun v11 =>
 (ixA Tryz.prog 74 v11 s4).bind fun v12 =>
 (ld Tryz.prog 4 H v12).bind fun v13 =>
 (un Tryz.prog .not v13).bind fun v14 =>
 b2 (gOp v14 true (some (s0, H)) H) fun v15 h15 =>
 b2 (gOp v14 true ((nilChk v15).bind fun v => some (v, h15)) h15) fun v16 h16 =>
 b2 (gOp v14 true ((fldA Tryz.prog 76 v16 4).bind fun v => some (v, h16)) h16) fun v17 h17 =>
 b2 (gOp v14 true ((ld Tryz.prog 51 h17 v17).bind fun v => some (v, h17)) h17) fun v18 h18 =>
 b2 (gOp v14 true (some (s4, h18)) h18) fun v19 h19 =>
 b2 (gOp v14 true (b2 (rn k 43 [v18, v19] h19) fun v h => some (v, h)) h19) fun v20 h20 =>
 b2 (gOp v14 true ((un Tryz.prog .not v20).bind fun v => some (v, h20)) h20) fun v21 h21 =>
 (pickV v14 v21 (.bool false)).bind fun v22 =>
 aIf v22
  ((nilChk s0).bind fun v23 =>
  (fldA Tryz.prog 76 v23 4).bind fun v24 =>
  (ld Tryz.prog 51 h21 v24).bind fun v25 =>
  (nilChk s0).bind fun v26 =>
  (fldA Tryz.prog 76 v26 4).bind fun v27 =>
  (ld Tryz.prog 51 h21 v27).bind fun v28 =>
  (lenV Tryz.prog 51 v28).bind fun v29 =>
  (nilChk s0).bind fun v30 =>
  (fldA Tryz.prog 76 v30 4).bind fun v31 =>
  (ld Tryz.prog 51 h21 v31).bind fun v32 =>
  (lenV Tryz.prog 51 v32).bind fun v33 =>
  (slc3 Tryz.prog 51 h21 v25 none (some v29) v33).bind fun v34 =>
  b2 (buildS Tryz.prog 51 h21 1 [(0, s4)]) fun v35 h35 =>
  b2 (ap Tryz.prog 51 51 h35 v34 v35) fun v36 h36 =>
  (nilChk s0).bind fun v37 =>
  (fldA Tryz.prog 76 v37 4).bind fun v38 =>
  (st Tryz.prog 51 h36 v38 v36).bind fun h39 =>
  some (.ret, (f12_X_L0 s4 (.int .i64 0)), h39))
  ((bin Tryz.prog .add 3 s4 (.int .i64 1)).bind fun v40 =>
  f12_L0 k s0 v40 n h21))
 (some ((.exit 0), (f12_X_L0 unk unk), H)) := by kernel_rfl
theorem f12_A0_x0 (k : Nat) (s2 s3 : Value) (H : AH) : f12_A0 k (.exit 0) (f12_X_L0 s2 s3) H =
some ((.tuple #[(.int .i64 0), (.int .i64 6)]), H) := by kernel_rfl
theorem f12_A0_ret (k : Nat) (s2 s3 : Value) (H : AH) : f12_A0 k .ret (f12_X_L0 s2 s3) H =
some ((.tuple #[s2, s3]), H) := by kernel_rfl
theorem f12_eq (k : Nat) (a0 : Value) (H : AH) : rn (k + 1) 12 [a0] H =
(nilChk a0).bind fun v1 =>
(fldA Tryz.prog 76 v1 5).bind fun v2 =>
(ld Tryz.prog 4 H v2).bind fun v3 =>
aIf v3
 (some ((.tuple #[(.int .i64 0), (.int .i64 7)]), H))
 ((f12_L0 k a0 (.int .i64 0) k H).bind fun p => f12_A0 k p.1 p.2.1 p.2.2) := by kernel_rfl
theorem f13_eq (k : Nat) (a0 a1 a2 a3 : Value) (H : AH) : rn (k + 1) 13 [a0, a1, a2, a3] H =
(nilChk a0).bind fun v1 =>
(fldA Tryz.prog 85 v1 3).bind fun v2 =>
(ld Tryz.prog 4 H v2).bind fun v3 =>
aIf v3
 (some ((.int .i64 7), H))
 ((nilChk a0).bind fun v4 =>
 (fldA Tryz.prog 85 v4 2).bind fun v5 =>
 (ld Tryz.prog 51 H v5).bind fun v6 =>
 b2 (rn k 42 [v6, a1] H) fun v7 h7 =>
 (un Tryz.prog .not v7).bind fun v8 =>
 aIf v8
  (some ((.int .i64 8), h7))
  ((nilChk a0).bind fun v9 =>
  (fldA Tryz.prog 85 v9 1).bind fun v10 =>
  (ld Tryz.prog 27 h7 v10).bind fun v11 =>
  b2 (rn k 45 [v11, a1, a2, a3] h7) fun v12 h12 =>
  b2 (rn k 44 [a0, v12] h12) fun v13 h13 =>
  some (v13, h13))) := by kernel_rfl
theorem f14_eq (k : Nat) (a0 a1 a2 a3 : Value) (H : AH) : rn (k + 1) 14 [a0, a1, a2, a3] H =
(nilChk a0).bind fun v1 =>
(fldA Tryz.prog 76 v1 5).bind fun v2 =>
(ld Tryz.prog 4 H v2).bind fun v3 =>
aIf v3
 (some ((.int .i64 7), H))
 ((nilChk a0).bind fun v4 =>
 (fldA Tryz.prog 76 v4 4).bind fun v5 =>
 (ld Tryz.prog 51 H v5).bind fun v6 =>
 b2 (rn k 43 [v6, a1] H) fun v7 h7 =>
 (un Tryz.prog .not v7).bind fun v8 =>
 aIf v8
  (some ((.int .i64 8), h7))
  ((nilChk a0).bind fun v9 =>
  (fldA Tryz.prog 76 v9 0).bind fun v10 =>
  (ld Tryz.prog 28 h7 v10).bind fun v11 =>
  b2 (rn k 47 [v11, a1, a2, a3] h7) fun v12 h12 =>
  b2 (rn k 46 [a0, v12] h12) fun v13 h13 =>
  some (v13, h13))) := by kernel_rfl
abbrev f15_T_R0 (s4 s5 s6 : Value) : List Value := [unk, unk, unk, unk, s4, s5, s6, unk, unk, unk, unk, unk, unk, unk, unk, unk, unk, unk, unk, unk, unk]
abbrev f15_X_R0 (s4 s5 s6 : Value) : List Value := [unk, unk, unk, unk, s4, s5, s6] ++ List.replicate 14 unk
@[irreducible] def f15_B0 (k : Nat) (s4 s5 s6 : Value) (e : EX) (H : AH) : Option (Value × AH) := resume Tryz.prog (rn k) k (tbs 15) (bodyOf Tryz.f15) [1, 1, 0, 1, 0] e (f15_X_R0 s4 s5 s6) H (resK Tryz.prog Tryz.f15.results.toList)
theorem f15_B0_normal (k : Nat) (s4 s5 s6 : Value) (H : AH) : f15_B0 k s4 s5 s6 .normal H =
b2 (rn k 50 [s6] H) fun v5 h5 =>
(st Tryz.prog 9 h5 s4 v5).bind fun h6 =>
(st Tryz.prog 37 h6 s5 (.int .i64 0)).bind fun h7 =>
((ld Tryz.prog 9 h7 s4).bind fun v8 => ((ld Tryz.prog 37 h7 s5).bind fun v9 => some (v9 :: [])).bind fun vs => some (v8 :: vs)).bind fun vs => some (oneOf vs, h7) := by kernel_rfl
theorem f15_B0_ret (k : Nat) (s4 s5 s6 : Value) (H : AH) : f15_B0 k s4 s5 s6 .ret H =
((ld Tryz.prog 9 H s4).bind fun v10 => ((ld Tryz.prog 37 H s5).bind fun v11 => some (v11 :: [])).bind fun vs => some (v10 :: vs)).bind fun vs => some (oneOf vs, H) := by kernel_rfl
theorem f15_Y0_eq (k : Nat) (s4 s5 s6 : Value) (x0 : Value) (b : Nat) (H : AH) (hb : blk H b = some ⟨.int .i64 0 :: f15_T_R0 s4 s5 s6, 4, .loop 15 4⟩) : rn (k + 1) (yOff + b) [x0] H =
b2 (newV Tryz.prog 97 H) fun v12 h12 =>
(st Tryz.prog 97 h12 v12 x0).bind fun h13 =>
(setSt h13 b 0 1).bind fun h0 =>
(fldA Tryz.prog 97 v12 2).bind fun v14 =>
(ld Tryz.prog 37 h0 v14).bind fun v15 =>
(bin Tryz.prog .neq 37 v15 (.int .i64 0)).bind fun v16 =>
aIf v16
 ((fldA Tryz.prog 97 v12 2).bind fun v17 =>
 (ld Tryz.prog 37 h0 v17).bind fun v18 =>
 (st Tryz.prog 9 h0 s4 (.string ⟨#[]⟩)).bind fun h19 =>
 aChk (ld Tryz.prog 37 h19 v17 = some v18) <|
 (st Tryz.prog 37 h19 s5 v18).bind fun h20 =>
 (setSt h20 b 1 2).bind fun h => some (.bool false, h))
 ((fldA Tryz.prog 97 v12 1).bind fun v21 =>
 (ld Tryz.prog 9 h0 v21).bind fun v22 =>
 b2 (rn k 49 [s6, v22] h0) fun v23 h23 =>
 (setSt h23 b 1 0).bind fun h => some (.bool true, h)) := (run_round hb).trans (by kernel_rfl)
theorem f15_eq (k : Nat) (a0 a1 : Value) (H : AH) : rn (k + 1) 15 [a0, a1] H =
b2 (newV Tryz.prog 9 H) fun v1 h1 =>
b2 (newV Tryz.prog 37 h1) fun v2 h2 =>
b2 (newV Tryz.prog 92 h2) fun v3 h3 =>
b2 (rn k 48 [a0, a1] h3) fun v4 h4 =>
b2 (callV (rn k) v4 [(.func (.yield (List.length h4)) #[] #[])] (mkB h4 (.int .i64 0 :: (f15_T_R0 v1 v2 v3)) 4 (.loop 15 4))) fun v h => rgBack (List.length h4) h fun e h => f15_B0 k v1 v2 v3 e h := by kernel_rfl
theorem f16_eq (k : Nat) (a0 a1 : Value) (H : AH) : rn (k + 1) 16 [a0, a1] H =
b2 (rn k 51 [a0, a1] H) fun v1 h1 =>
(ext v1 0).bind fun v2 =>
(ext v1 1).bind fun v3 =>
(ext v1 2).bind fun v4 =>
some ((.tuple #[v3, v4]), h1) := by kernel_rfl
abbrev f17_T_R0 (s4 s5 s6 : Value) : List Value := [unk, unk, unk, unk, s4, s5, s6, unk, unk, unk, unk, unk, unk, unk, unk, unk, unk, unk, unk, unk, unk, unk, unk]
abbrev f17_X_R0 (s4 s5 s6 : Value) : List Value := [unk, unk, unk, unk, s4, s5, s6] ++ List.replicate 16 unk
@[irreducible] def f17_B0 (k : Nat) (s4 s5 s6 : Value) (e : EX) (H : AH) : Option (Value × AH) := resume Tryz.prog (rn k) k (tbs 17) (bodyOf Tryz.f17) [1, 1, 0, 1, 0] e (f17_X_R0 s4 s5 s6) H (resK Tryz.prog Tryz.f17.results.toList)
theorem f17_B0_normal (k : Nat) (s4 s5 s6 : Value) (H : AH) : f17_B0 k s4 s5 s6 .normal H =
(ld Tryz.prog 51 H s6).bind fun v5 =>
(st Tryz.prog 51 H s4 v5).bind fun h6 =>
(st Tryz.prog 37 h6 s5 (.int .i64 0)).bind fun h7 =>
((ld Tryz.prog 51 h7 s4).bind fun v8 => ((ld Tryz.prog 37 h7 s5).bind fun v9 => some (v9 :: [])).bind fun vs => some (v8 :: vs)).bind fun vs => some (oneOf vs, h7) := by kernel_rfl
theorem f17_B0_ret (k : Nat) (s4 s5 s6 : Value) (H : AH) : f17_B0 k s4 s5 s6 .ret H =
((ld Tryz.prog 51 H s4).bind fun v10 => ((ld Tryz.prog 37 H s5).bind fun v11 => some (v11 :: [])).bind fun vs => some (v10 :: vs)).bind fun vs => some (oneOf vs, H) := by kernel_rfl
theorem f17_Y0_eq (k : Nat) (s4 s5 s6 : Value) (x0 : Value) (b : Nat) (H : AH) (hb : blk H b = some ⟨.int .i64 0 :: f17_T_R0 s4 s5 s6, 4, .loop 17 4⟩) : rn (k + 1) (yOff + b) [x0] H =
b2 (newV Tryz.prog 97 H) fun v12 h12 =>
(st Tryz.prog 97 h12 v12 x0).bind fun h13 =>
(setSt h13 b 0 1).bind fun h0 =>
(fldA Tryz.prog 97 v12 2).bind fun v14 =>
(ld Tryz.prog 37 h0 v14).bind fun v15 =>
(bin Tryz.prog .neq 37 v15 (.int .i64 0)).bind fun v16 =>
aIf v16
 ((fldA Tryz.prog 97 v12 2).bind fun v17 =>
 (ld Tryz.prog 37 h0 v17).bind fun v18 =>
 (st Tryz.prog 51 h0 s4 (.slice none 0 0)).bind fun h19 =>
 aChk (ld Tryz.prog 37 h19 v17 = some v18) <|
 (st Tryz.prog 37 h19 s5 v18).bind fun h20 =>
 (setSt h20 b 1 2).bind fun h => some (.bool false, h))
 ((ld Tryz.prog 51 h0 s6).bind fun v21 =>
 (fldA Tryz.prog 97 v12 0).bind fun v22 =>
 (ld Tryz.prog 3 h0 v22).bind fun v23 =>
 b2 (buildS Tryz.prog 51 h0 1 [(0, v23)]) fun v24 h24 =>
 b2 (ap Tryz.prog 51 51 h24 v21 v24) fun v25 h25 =>
 (st Tryz.prog 51 h25 s6 v25).bind fun h26 =>
 (setSt h26 b 1 0).bind fun h => some (.bool true, h)) := (run_round hb).trans (by kernel_rfl)
theorem f17_eq (k : Nat) (a0 a1 : Value) (H : AH) : rn (k + 1) 17 [a0, a1] H =
b2 (newV Tryz.prog 51 H) fun v1 h1 =>
b2 (newV Tryz.prog 37 h1) fun v2 h2 =>
b2 (newV Tryz.prog 51 h2) fun v3 h3 =>
b2 (rn k 48 [a0, a1] h3) fun v4 h4 =>
b2 (callV (rn k) v4 [(.func (.yield (List.length h4)) #[] #[])] (mkB h4 (.int .i64 0 :: (f17_T_R0 v1 v2 v3)) 4 (.loop 17 4))) fun v h => rgBack (List.length h4) h fun e h => f17_B0 k v1 v2 v3 e h := by kernel_rfl
theorem f18_eq (k : Nat) (a0 a1 : Value) (H : AH) : rn (k + 1) 18 [a0, a1] H =
b2 (rn k 51 [a0, a1] H) fun v1 h1 =>
(ext v1 0).bind fun v2 =>
(ext v1 1).bind fun v3 =>
(ext v1 2).bind fun v4 =>
some ((.tuple #[v2, v4]), h1) := by kernel_rfl
abbrev f19_T_L0 (s0 s1 s5 : Value) : List Value := [s0, s1, unk, unk, unk, s5] ++ List.replicate 20 unk
abbrev f19_X_L0 (s4 : Value) : List Value := [unk, unk, unk, unk, s4] ++ List.replicate 21 unk
@[irreducible] def f19_L0 (k : Nat) (s0 s1 s5 : Value) (n : Nat) (H : AH) : Option Out := iterD (fun T H K => evalK Tryz.prog (rn k) k (tbs 19) (codeAt (bodyOf Tryz.f19) [1, 1, 0, 1, 0, 0]) T H K) (cutT (tbs 19) 13) (cutT (tbs 19) 14) n (f19_T_L0 s0 s1 s5) H
@[irreducible] def f19_A0 (k : Nat) (e : EX) (T : List Value) (H : AH) : Option (Value × AH) := resume Tryz.prog (rn k) k (tbs 19) (bodyOf Tryz.f19) [1, 1, 0, 1, 0] e T H (resK Tryz.prog Tryz.f19.results.toList)
theorem f19_L0_succ (k : Nat) (s0 s1 s5 : Value) (n : Nat) (H : AH) : f19_L0 k s0 s1 s5 (n + 1) H =
(lenV Tryz.prog 51 s0).bind fun v4 =>
(bin Tryz.prog .lss 3 s5 v4).bind fun v5 =>
aIf v5
 ((ixA Tryz.prog 51 s0 s5).bind fun v6 =>
 (ld Tryz.prog 3 H v6).bind fun v7 =>
 (ixA Tryz.prog 51 s1 s5).bind fun v8 =>
 (ld Tryz.prog 3 H v8).bind fun v9 =>
 (bin Tryz.prog .neq 3 v7 v9).bind fun v10 =>
 aIf v10
  (some (.ret, (f19_X_L0 (.bool false)), H))
  ((bin Tryz.prog .add 3 s5 (.int .i64 1)).bind fun v11 =>
  f19_L0 k s0 s1 v11 n H))
 (some ((.exit 0), (f19_X_L0 unk), H)) := by kernel_rfl
theorem f19_A0_x0 (k : Nat) (s4 : Value) (H : AH) : f19_A0 k (.exit 0) (f19_X_L0 s4) H =
some ((.bool true), H) := by kernel_rfl
theorem f19_eq (k : Nat) (a0 a1 : Value) (H : AH) : rn (k + 1) 19 [a0, a1] H =
(lenV Tryz.prog 51 a0).bind fun v1 =>
(lenV Tryz.prog 51 a1).bind fun v2 =>
(bin Tryz.prog .neq 3 v1 v2).bind fun v3 =>
aIf v3
 (some ((.bool false), H))
 ((f19_L0 k a0 a1 (.int .i64 0) k H).bind fun p => f19_A0 k p.1 p.2.1 p.2.2) := by kernel_rfl
theorem f20_eq (k : Nat) (a0 : Value) (H : AH) : rn (k + 1) 20 [a0] H =
(fold1 maxV [a0, (.int .i64 0)]).bind fun v1 =>
(fold1 minV [v1, (.int .i64 1048576)]).bind fun v2 =>
(bin Tryz.prog .eql 3 v2 (.int .i64 0)).bind fun v3 =>
aIf v3
 (some ((.int .i64 1), H))
 ((bin Tryz.prog .add 3 v2 (.int .i64 118)).bind fun v4 =>
 (bin Tryz.prog .sub 3 v4 (.int .i64 1)).bind fun v5 =>
 (bin Tryz.prog .quo 3 v5 (.int .i64 118)).bind fun v6 =>
 some (v6, H)) := by kernel_rfl
theorem f21_eq (k : Nat) (a0 : Value) (H : AH) : rn (k + 1) 21 [a0] H =
(fold1 maxV [a0, (.int .i64 0)]).bind fun v1 =>
(fold1 minV [v1, (.int .i64 1048576)]).bind fun v2 =>
(bin Tryz.prog .add 3 v2 (.int .i64 118)).bind fun v3 =>
(bin Tryz.prog .sub 3 v3 (.int .i64 1)).bind fun v4 =>
(bin Tryz.prog .quo 3 v4 (.int .i64 118)).bind fun v5 =>
(fold1 maxV [(.int .i64 1), v5]).bind fun v6 =>
some (v6, H) := by kernel_rfl
theorem f22_eq (k : Nat) (a0 : Value) (H : AH) : rn (k + 1) 22 [a0] H =
(bin Tryz.prog .lss 3 a0 (.int .i64 1)).bind fun v1 =>
b2 (gOp v1 false (some (a0, H)) H) fun v2 h2 =>
b2 (gOp v1 false ((bin Tryz.prog .gtr 3 v2 (.int .i64 1024)).bind fun v => some (v, h2)) h2) fun v3 h3 =>
(pickV v1 (.bool true) v3).bind fun v4 =>
aIf v4
 (some ((.tuple #[(.pointer none), (.int .i64 1)]), h3))
 ((bin Tryz.prog .mul 3 a0 (.int .i64 64)).bind fun v5 =>
 b2 (mkS Tryz.prog 63 h3 v5 v5) fun v6 h6 =>
 (build Tryz.prog 71 [(0, v6), (2, (.int .i64 (-1)))]).bind fun v7 =>
 b2 (box 71 h6 v7) fun v8 h8 =>
 some ((.tuple #[v8, (.int .i64 0)]), h8)) := by kernel_rfl
theorem f23_eq (k : Nat) (a0 : Value) (H : AH) : rn (k + 1) 23 [a0] H =
b2 (rn k 52 [a0] H) fun v1 h1 =>
(bin Tryz.prog .lss 3 v1 (.int .i64 4)).bind fun v2 =>
aIf v2
 (some ((.tuple #[(.pointer none), (.int .i64 1)]), h1))
 (b2 (mkM 81 h1) fun v3 h3 =>
 (mpU Tryz.prog 81 h3 v3 (.int .i64 0) (.bool true)).bind fun h4 =>
 (mpU Tryz.prog 81 h4 v3 (.int .i64 1) (.bool true)).bind fun h5 =>
 (build Tryz.prog 83 [(0, (.int .i64 1)), (2, v3)]).bind fun v6 =>
 (build Tryz.prog 85 [(1, a0), (0, v6)]).bind fun v7 =>
 b2 (box 85 h5 v7) fun v8 h8 =>
 (nilChk v8).bind fun v9 =>
 (fldA Tryz.prog 85 v9 0).bind fun v10 =>
 (ld Tryz.prog 83 h8 v10).bind fun v11 =>
 b2 (rn k 53 [v11, a0] h8) fun v12 h12 =>
 (bin Tryz.prog .neq 37 v12 (.int .i64 0)).bind fun v13 =>
 aIf v13
  (some ((.tuple #[(.pointer none), v12]), h12))
  (b2 (rn k 54 [a0] h12) fun v14 h14 =>
  (bin Tryz.prog .neq 37 v14 (.int .i64 0)).bind fun v15 =>
  aIf v15
   (some ((.tuple #[(.pointer none), v14]), h14))
   (some ((.tuple #[v8, (.int .i64 0)]), h14)))) := by kernel_rfl
theorem f24_eq (k : Nat) (a0 : Value) (H : AH) : rn (k + 1) 24 [a0] H =
b2 (rn k 22 [a0] H) fun v1 h1 =>
(ext v1 0).bind fun v2 =>
(ext v1 1).bind fun v3 =>
b2 (rn k 55 [a0] h1) fun v4 h4 =>
(bin Tryz.prog .neq 27 v2 (.pointer none)).bind fun v5 =>
b2 (gOp v5 true (some (v3, h4)) h4) fun v6 h6 =>
b2 (gOp v5 true ((bin Tryz.prog .eql 37 v6 (.int .i64 0)).bind fun v => some (v, h6)) h6) fun v7 h7 =>
(pickV v5 v7 (.bool false)).bind fun v8 =>
some ((.tuple #[v2, v4, v8]), h7) := by kernel_rfl
abbrev f25_T_J0 (s0 s4 s5 : Value) : List Value := [s0, unk, unk, unk, s4, s5] ++ List.replicate 25 unk
@[irreducible] def f25_J0 (k : Nat) (s0 s4 s5 : Value) (H : AH) : Option (Value × AH) := resume Tryz.prog (rn k) k (tbs 25) (bodyOf Tryz.f25) [1, 1, 1, 1, 1, 1, 0] .normal (f25_T_J0 s0 s4 s5) H (resK Tryz.prog Tryz.f25.results.toList)
theorem f25_J0_eq (k : Nat) (s0 s4 s5 : Value) (H : AH) : f25_J0 k s0 s4 s5 H =
(bin Tryz.prog .neq 3 s5 (.int .i64 0)).bind fun v13 =>
aIf v13
 (some ((.tuple #[(.pointer none), s5]), H))
 ((build Tryz.prog 76 [(0, s0), (1, (.int .i64 1)), (3, s4)]).bind fun v14 =>
 b2 (box 76 H v14) fun v15 h15 =>
 some ((.tuple #[v15, (.int .i64 0)]), h15)) := by kernel_rfl
theorem f25_eq (k : Nat) (a0 : Value) (H : AH) : rn (k + 1) 25 [a0] H =
b2 (rn k 56 [a0] H) fun v1 h1 =>
(bin Tryz.prog .lss 3 v1 (.int .i64 4)).bind fun v2 =>
aIf v2
 (some ((.tuple #[(.pointer none), (.int .i64 1)]), h1))
 (b2 (rn k 56 [a0] h1) fun v3 h3 =>
 b2 (mkS Tryz.prog 74 h3 v3 v3) fun v4 h4 =>
 (ixA Tryz.prog 74 v4 (.int .i64 0)).bind fun v5 =>
 (st Tryz.prog 4 h4 v5 (.bool true)).bind fun h6 =>
 (ixA Tryz.prog 74 v4 (.int .i64 1)).bind fun v7 =>
 (st Tryz.prog 4 h6 v7 (.bool true)).bind fun h8 =>
 b2 (rn k 57 [(.int .i64 1), (.int .i64 0), v4] h8) fun v9 h9 =>
 b2 (rn k 47 [a0, (.int .i64 1), (.int .i64 1), v9] h9) fun v10 h10 =>
 (bin Tryz.prog .eql 3 v10 (.int .i64 0)).bind fun v11 =>
 aIf v11
  (b2 (rn k 58 [a0] h10) fun v12 h12 =>
  f25_J0 k a0 v4 v12 h12)
  (f25_J0 k a0 v4 v10 h10)) := by kernel_rfl
theorem f26_eq (k : Nat) (a0 a1 a2 a3 a4 : Value) (H : AH) : rn (k + 1) 26 [a0, a1, a2, a3, a4] H =
(nilChk a0).bind fun v1 =>
(fldA Tryz.prog 32 v1 2).bind fun v2 =>
(st Tryz.prog 29 H v2 a1).bind fun h3 =>
(nilChk a0).bind fun v4 =>
(fldA Tryz.prog 32 v4 3).bind fun v5 =>
(st Tryz.prog 30 h3 v5 a3).bind fun h6 =>
(bin Tryz.prog .eql 29 a1 (.pointer none)).bind fun v7 =>
(bin Tryz.prog .eql 30 a3 (.pointer none)).bind fun v8 =>
(bin Tryz.prog .eql 4 v7 v8).bind fun v9 =>
b2 (gOp v9 true (some (a2, h6)) h6) fun v10 h10 =>
b2 (gOp v9 true (some (a4, h10)) h10) fun v11 h11 =>
b2 (gOp v9 true ((bin Tryz.prog .eql 3 v10 v11).bind fun v => some (v, h11)) h11) fun v12 h12 =>
(pickV v9 v12 (.bool false)).bind fun v13 =>
some (v13, h12) := by kernel_rfl
theorem f27_eq (k : Nat) (a0 : Value) (H : AH) : rn (k + 1) 27 [a0] H =
(nilChk a0).bind fun v1 =>
(fldA Tryz.prog 85 v1 2).bind fun v2 =>
(ld Tryz.prog 51 H v2).bind fun v3 =>
b2 (rn k 59 [v3] H) fun v4 h4 =>
some (v4, h4) := by kernel_rfl
abbrev f28_T_L0 (s0 s1 s6 s16 s17 : Value) : List Value := [s0, s1, unk, unk, unk, unk, s6] ++ List.replicate 9 unk ++ [s16, s17] ++ List.replicate 56 unk
abbrev f28_X_L0 (s0 s1 s4 s5 s6 : Value) : List Value := [s0, s1, unk, unk, s4, s5, s6] ++ List.replicate 67 unk
abbrev f28_T_L1 (s0 s1 s6 s32 s33 s34 : Value) : List Value := [s0, s1, unk, unk, unk, unk, s6] ++ List.replicate 25 unk ++ [s32, s33, s34] ++ List.replicate 39 unk
abbrev f28_X_L1 (s4 s5 s6 : Value) : List Value := [unk, unk, unk, unk, s4, s5, s6] ++ List.replicate 67 unk
abbrev f28_T_J0 (s0 s1 s6 s10 s11 s32 s33 s34 : Value) : List Value := [s0, s1, unk, unk, unk, unk, s6, unk, unk, unk, s10, s11] ++ List.replicate 20 unk ++ [s32, s33, s34] ++ List.replicate 39 unk
@[irreducible] def f28_L0 (k : Nat) (s0 s1 s6 s16 s17 : Value) (n : Nat) (H : AH) : Option Out := iterD (fun T H K => evalK Tryz.prog (rn k) k (tbs 28) (codeAt (bodyOf Tryz.f28) [1, 1, 0, 1, 0, 0]) T H K) (cutT (tbs 28) 10) (cutT (tbs 28) 11) n (f28_T_L0 s0 s1 s6 s16 s17) H
@[irreducible] def f28_A0 (k : Nat) (e : EX) (T : List Value) (H : AH) : Option (Value × AH) := resume Tryz.prog (rn k) k (tbs 28) (bodyOf Tryz.f28) [1, 1, 0, 1, 0] e T H (resK Tryz.prog Tryz.f28.results.toList)
@[irreducible] def f28_L1 (k : Nat) (s0 s1 s6 s32 s33 s34 : Value) (n : Nat) (H : AH) : Option Out := iterD (fun T H K => evalK Tryz.prog (rn k) k (tbs 28) (codeAt (bodyOf Tryz.f28) [1, 1, 1, 0, 1, 0, 0]) T H K) (cutT (tbs 28) 31) (cutT (tbs 28) 32) n (f28_T_L1 s0 s1 s6 s32 s33 s34) H
@[irreducible] def f28_A1 (k : Nat) (e : EX) (T : List Value) (H : AH) : Option (Value × AH) := resume Tryz.prog (rn k) k (tbs 28) (bodyOf Tryz.f28) [1, 1, 1, 0, 1, 0] e T H (resK Tryz.prog Tryz.f28.results.toList)
@[irreducible] def f28_J0 (k : Nat) (n : Nat) (s0 s1 s6 s10 s11 s32 s33 s34 : Value) (H : AH) : Option Out := resume Tryz.prog (rn k) k (tbs 28) (codeAt (bodyOf Tryz.f28) [1, 1, 1, 0, 1, 0, 0]) [1, 1, 0, 0, 1, 1, 0] .normal (f28_T_J0 s0 s1 s6 s10 s11 s32 s33 s34) H (loopK (iterD (fun T H K => evalK Tryz.prog (rn k) k (tbs 28) (codeAt (bodyOf Tryz.f28) [1, 1, 1, 0, 1, 0, 0]) T H K) (cutT (tbs 28) 31) (cutT (tbs 28) 32) n) (cutT (tbs 28) 31) (cutT (tbs 28) 32))
theorem f28_L0_succ (k : Nat) (s0 s1 s6 s16 s17 : Value) (n : Nat) (H : AH) : f28_L0 k s0 s1 s6 s16 s17 (n + 1) H =
(bin Tryz.prog .lss 3 s17 s16).bind fun v3 =>
aIf v3
 (b2 (rn k 11 [s0] H) fun v4 h4 =>
 (ext v4 0).bind fun v5 =>
 (ext v4 1).bind fun v6 =>
 (bin Tryz.prog .neq 37 v6 (.int .i64 0)).bind fun v7 =>
 aIf v7
  (some (.ret, (f28_X_L0 s0 s1 (.slice none 0 0) v6 s6), h4))
  (b2 (buildS Tryz.prog 51 h4 1 [(0, v5)]) fun v8 h8 =>
  b2 (ap Tryz.prog 51 51 h8 s6 v8) fun v9 h9 =>
  (bin Tryz.prog .add 3 s17 (.int .i64 1)).bind fun v10 =>
  f28_L0 k s0 s1 v9 s16 v10 n h9))
 (some ((.exit 0), (f28_X_L0 s0 s1 unk unk s6), H)) := by kernel_rfl
theorem f28_A0_x0 (k : Nat) (s0 s1 s4 s5 s6 : Value) (H : AH) : f28_A0 k (.exit 0) (f28_X_L0 s0 s1 s4 s5 s6) H =
(lenV Tryz.prog 51 s6).bind fun v11 =>
(f28_L1 k s0 s1 s6 s6 v11 (.int .i64 0) k H).bind fun p => f28_A1 k p.1 p.2.1 p.2.2 := by kernel_rfl
theorem f28_A0_ret (k : Nat) (s0 s1 s4 s5 s6 : Value) (H : AH) : f28_A0 k .ret (f28_X_L0 s0 s1 s4 s5 s6) H =
some ((.tuple #[s4, s5]), H) := by kernel_rfl
theorem f28_L1_succ (k : Nat) (s0 s1 s6 s32 s33 s34 : Value) (n : Nat) (H : AH) : f28_L1 k s0 s1 s6 s32 s33 s34 (n + 1) H =
(bin Tryz.prog .lss 3 s34 s33).bind fun v12 =>
aIf v12
 ((ixA Tryz.prog 51 s32 s34).bind fun v13 =>
 (ld Tryz.prog 3 H v13).bind fun v14 =>
 (lenV Tryz.prog 51 s6).bind fun v15 =>
 (bin Tryz.prog .sub 3 v15 (.int .i64 1)).bind fun v16 =>
 (bin Tryz.prog .lss 3 s34 v16).bind fun v17 =>
 aIf v17
  ((bin Tryz.prog .add 3 s34 (.int .i64 1)).bind fun v18 =>
  (ixA Tryz.prog 51 s6 v18).bind fun v19 =>
  (ld Tryz.prog 3 H v19).bind fun v20 =>
  f28_J0 k n s0 s1 s6 v14 v20 s32 s33 s34 H)
  (f28_J0 k n s0 s1 s6 v14 (.int .i64 0) s32 s33 s34 H))
 (some ((.exit 2), (f28_X_L1 unk unk s6), H)) := by kernel_rfl
theorem f28_A1_x2 (k : Nat) (s4 s5 s6 : Value) (H : AH) : f28_A1 k (.exit 2) (f28_X_L1 s4 s5 s6) H =
some ((.tuple #[s6, (.int .i64 0)]), H) := by kernel_rfl
theorem f28_A1_ret (k : Nat) (s4 s5 s6 : Value) (H : AH) : f28_A1 k .ret (f28_X_L1 s4 s5 s6) H =
some ((.tuple #[s4, s5]), H) := by kernel_rfl
theorem f28_J0_eq (k : Nat) (n : Nat) (s0 s1 s6 s10 s11 s32 s33 s34 : Value) (H : AH) : f28_J0 k n s0 s1 s6 s10 s11 s32 s33 s34 H =
(lenV Tryz.prog 9 s1).bind fun v21 =>
(fold1 minV [v21, (.int .i64 118)]).bind fun v22 =>
(bin Tryz.prog .shr 3 s11 (.int .u64 8)).bind fun v23 =>
(cv Tryz.prog 3 5 v23).bind fun v24 =>
(cv Tryz.prog 3 5 s11).bind fun v25 =>
b2 (buildS Tryz.prog 63 H 2 [(0, v24), (1, v25)]) fun v26 h26 =>
(cvS Tryz.prog 63 9 h26 v26).bind fun v27 =>
(slc Tryz.prog 9 s1 none (some v22)).bind fun v28 =>
(bin Tryz.prog .add 9 v27 v28).bind fun v29 =>
b2 (rn k 13 [s0, s10, (.int .i64 2), v29] h26) fun v30 h30 =>
(bin Tryz.prog .neq 37 v30 (.int .i64 0)).bind fun v31 =>
aIf v31
 (some (.ret, (f28_X_L1 (.slice none 0 0) v30 s6), h30))
 ((slc Tryz.prog 9 s1 (some v22) none).bind fun v32 =>
 (bin Tryz.prog .add 3 s34 (.int .i64 1)).bind fun v33 =>
 f28_L1 k s0 v32 s6 s32 s33 v33 n h30) := by kernel_rfl
theorem f28_eq (k : Nat) (a0 a1 : Value) (H : AH) : rn (k + 1) 28 [a0, a1] H =
(lenV Tryz.prog 9 a1).bind fun v1 =>
b2 (rn k 20 [v1] H) fun v2 h2 =>
(f28_L0 k a0 a1 (.slice none 0 0) v2 (.int .i64 0) k h2).bind fun p => f28_A0 k p.1 p.2.1 p.2.2 := by kernel_rfl
theorem f29_eq (k : Nat) (a0 a1 : Value) (H : AH) : rn (k + 1) 29 [a0, a1] H =
(nilChk a0).bind fun v1 =>
(fldA Tryz.prog 85 v1 2).bind fun v2 =>
(ld Tryz.prog 51 H v2).bind fun v3 =>
(fold1 maxV [a1, (.int .i64 0)]).bind fun v4 =>
(nilChk a0).bind fun v5 =>
(fldA Tryz.prog 85 v5 2).bind fun v6 =>
(ld Tryz.prog 51 H v6).bind fun v7 =>
(lenV Tryz.prog 51 v7).bind fun v8 =>
(fold1 minV [v4, v8]).bind fun v9 =>
(slc Tryz.prog 51 v3 none (some v9)).bind fun v10 =>
(nilChk a0).bind fun v11 =>
(fldA Tryz.prog 85 v11 2).bind fun v12 =>
(st Tryz.prog 51 H v12 v10).bind fun h13 =>
some ((.tuple #[]), h13) := by kernel_rfl
theorem f30_eq (k : Nat) (a0 a1 : Value) (H : AH) : rn (k + 1) 30 [a0, a1] H =
(nilChk a0).bind fun v1 =>
(fldA Tryz.prog 76 v1 4).bind fun v2 =>
(ld Tryz.prog 51 H v2).bind fun v3 =>
(fold1 maxV [a1, (.int .i64 0)]).bind fun v4 =>
(nilChk a0).bind fun v5 =>
(fldA Tryz.prog 76 v5 4).bind fun v6 =>
(ld Tryz.prog 51 H v6).bind fun v7 =>
(lenV Tryz.prog 51 v7).bind fun v8 =>
(fold1 minV [v4, v8]).bind fun v9 =>
(slc Tryz.prog 51 v3 none (some v9)).bind fun v10 =>
(nilChk a0).bind fun v11 =>
(fldA Tryz.prog 76 v11 4).bind fun v12 =>
(st Tryz.prog 51 H v12 v10).bind fun h13 =>
some ((.tuple #[]), h13) := by kernel_rfl
theorem f31_eq (k : Nat) (a0 : Value) (H : AH) : rn (k + 1) 31 [a0] H =
(nilChk a0).bind fun v1 =>
(fldA Tryz.prog 71 v1 3).bind fun v2 =>
(ld Tryz.prog 4 H v2).bind fun v3 =>
some (v3, H) := by kernel_rfl
theorem f32_eq (k : Nat) (a0 : Value) (H : AH) : rn (k + 1) 32 [a0] H =
(nilChk a0).bind fun v1 =>
(fldA Tryz.prog 71 v1 0).bind fun v2 =>
(ld Tryz.prog 63 H v2).bind fun v3 =>
(lenV Tryz.prog 63 v3).bind fun v4 =>
(bin Tryz.prog .quo 3 v4 (.int .i64 64)).bind fun v5 =>
some (v5, H) := by kernel_rfl
theorem f33_eq (k : Nat) (a0 : Value) (H : AH) : rn (k + 1) 33 [a0] H =
(nilChk a0).bind fun v1 =>
(fldA Tryz.prog 71 v1 1).bind fun v2 =>
(ld Tryz.prog 69 H v2).bind fun v3 =>
(lenV Tryz.prog 69 v3).bind fun v4 =>
some (v4, H) := by kernel_rfl
abbrev f34_T_R0 (s3 s4 s5 : Value) : List Value := [unk, unk, unk, s3, s4, s5, unk, unk, unk, unk, unk, unk, unk, unk, unk, unk, unk, unk, unk, unk, unk, unk, unk, unk, unk, unk, unk, unk, unk, unk, unk, unk, unk, unk, unk, unk, unk, unk, unk, unk, unk, unk, unk, unk, unk, unk]
abbrev f34_X_R0 (s0 s3 s4 s5 : Value) : List Value := [s0, unk, unk, s3, s4, s5] ++ List.replicate 40 unk
@[irreducible] def f34_B0 (k : Nat) (s0 s3 s4 s5 : Value) (e : EX) (H : AH) : Option (Value × AH) := resume Tryz.prog (rn k) k (tbs 34) (bodyOf Tryz.f34) [1, 1, 0, 1, 0] e (f34_X_R0 s0 s3 s4 s5) H (resK Tryz.prog Tryz.f34.results.toList)
theorem f34_B0_normal (k : Nat) (s0 s3 s4 s5 : Value) (H : AH) : f34_B0 k s0 s3 s4 s5 .normal H =
(nilChk s0).bind fun v26 =>
(fldA Tryz.prog 71 v26 0).bind fun v27 =>
(ld Tryz.prog 63 H v27).bind fun v28 =>
(ld Tryz.prog 3 H s3).bind fun v29 =>
(bin Tryz.prog .mul 3 v29 (.int .i64 64)).bind fun v30 =>
(ld Tryz.prog 3 H s3).bind fun v31 =>
(bin Tryz.prog .add 3 v31 (.int .i64 1)).bind fun v32 =>
(bin Tryz.prog .mul 3 v32 (.int .i64 64)).bind fun v33 =>
(slc Tryz.prog 63 v28 (some v30) (some v33)).bind fun v34 =>
(cvS Tryz.prog 63 9 H v34).bind fun v35 =>
(st Tryz.prog 9 H s4 v35).bind fun h36 =>
(st Tryz.prog 37 h36 s5 (.int .i64 0)).bind fun h37 =>
((ld Tryz.prog 9 h37 s4).bind fun v38 => ((ld Tryz.prog 37 h37 s5).bind fun v39 => some (v39 :: [])).bind fun vs => some (v38 :: vs)).bind fun vs => some (oneOf vs, h37) := by kernel_rfl
theorem f34_B0_ret (k : Nat) (s0 s3 s4 s5 : Value) (H : AH) : f34_B0 k s0 s3 s4 s5 .ret H =
((ld Tryz.prog 9 H s4).bind fun v40 => ((ld Tryz.prog 37 H s5).bind fun v41 => some (v41 :: [])).bind fun vs => some (v40 :: vs)).bind fun vs => some (oneOf vs, H) := by kernel_rfl
theorem f34_Y0_eq (k : Nat) (s3 s4 s5 : Value) (x0 x1 : Value) (b : Nat) (H : AH) (hb : blk H b = some ⟨.int .i64 0 :: f34_T_R0 s3 s4 s5, 7, .loop 34 7⟩) : rn (k + 1) (yOff + b) [x0, x1] H =
b2 (newV Tryz.prog 116 H) fun v42 h42 =>
(st Tryz.prog 116 h42 v42 x1).bind fun h43 =>
(setSt h43 b 0 1).bind fun h0 =>
(fldA Tryz.prog 116 v42 0).bind fun v44 =>
(ld Tryz.prog 3 h0 v44).bind fun v45 =>
(ld Tryz.prog 3 h0 s3).bind fun v46 =>
(bin Tryz.prog .eql 3 v45 v46).bind fun v47 =>
aIf v47
 ((fldA Tryz.prog 116 v42 1).bind fun v48 =>
 (ld Tryz.prog 9 h0 v48).bind fun v49 =>
 (st Tryz.prog 9 h0 s4 v49).bind fun h50 =>
 (st Tryz.prog 37 h50 s5 (.int .i64 0)).bind fun h51 =>
 (setSt h51 b 1 2).bind fun h => some (.bool false, h))
 ((setSt h0 b 1 0).bind fun h => some (.bool true, h)) := (run_round hb).trans (by kernel_rfl)
theorem f34_eq (k : Nat) (a0 a1 : Value) (H : AH) : rn (k + 1) 34 [a0, a1] H =
b2 (box 3 H a1) fun v1 h1 =>
b2 (newV Tryz.prog 9 h1) fun v2 h2 =>
b2 (newV Tryz.prog 37 h2) fun v3 h3 =>
(nilChk a0).bind fun v4 =>
(fldA Tryz.prog 71 v4 3).bind fun v5 =>
(ld Tryz.prog 4 h3 v5).bind fun v6 =>
aIf v6
 ((st Tryz.prog 9 h3 v2 (.string ⟨#[]⟩)).bind fun h7 =>
 (st Tryz.prog 37 h7 v3 (.int .i64 7)).bind fun h8 =>
 ((ld Tryz.prog 9 h8 v2).bind fun v9 => ((ld Tryz.prog 37 h8 v3).bind fun v10 => some (v10 :: [])).bind fun vs => some (v9 :: vs)).bind fun vs => some (oneOf vs, h8))
 ((ld Tryz.prog 3 h3 v1).bind fun v11 =>
 (bin Tryz.prog .lss 3 v11 (.int .i64 0)).bind fun v12 =>
 b2 (gOp v12 false ((ld Tryz.prog 3 h3 v1).bind fun v => some (v, h3)) h3) fun v13 h13 =>
 b2 (gOp v12 false (some (a0, h3)) h3) fun v14 h14 =>
 b2 (gOp v12 false (b2 (rn k 32 [v14] h14) fun v h => some (v, h)) h14) fun v15 h15 =>
 aChk (v12 = .bool false → ld Tryz.prog 3 h15 v1 = some v13) <|
 b2 (gOp v12 false ((bin Tryz.prog .geq 3 v13 v15).bind fun v => some (v, h15)) h15) fun v16 h16 =>
 (pickV v12 (.bool true) v16).bind fun v17 =>
 aIf v17
  ((st Tryz.prog 9 h16 v2 (.string ⟨#[]⟩)).bind fun h18 =>
  (st Tryz.prog 37 h18 v3 (.int .i64 1)).bind fun h19 =>
  ((ld Tryz.prog 9 h19 v2).bind fun v20 => ((ld Tryz.prog 37 h19 v3).bind fun v21 => some (v21 :: [])).bind fun vs => some (v20 :: vs)).bind fun vs => some (oneOf vs, h19))
  ((nilChk a0).bind fun v22 =>
  (fldA Tryz.prog 71 v22 1).bind fun v23 =>
  (ld Tryz.prog 69 h16 v23).bind fun v24 =>
  b2 (rn k 60 [v24] h16) fun v25 h25 =>
  b2 (callV (rn k) v25 [(.func (.yield (List.length h25)) #[] #[])] (mkB h25 (.int .i64 0 :: (f34_T_R0 v1 v2 v3)) 7 (.loop 34 7))) fun v h => rgBack (List.length h25) h fun e h => f34_B0 k a0 v1 v2 v3 e h)) := by kernel_rfl
abbrev f35_T_L0 (s0 s1 s6 s7 : Value) : List Value := [s0, s1, unk, unk, unk, unk, s6, s7] ++ List.replicate 52 unk
abbrev f35_X_L0 (s6 : Value) : List Value := [unk, unk, unk, unk, unk, unk, s6] ++ List.replicate 53 unk
@[irreducible] def f35_L0 (k : Nat) (s0 s1 s6 s7 : Value) (n : Nat) (H : AH) : Option Out := iterD (fun T H K => evalK Tryz.prog (rn k) k (tbs 35) (codeAt (bodyOf Tryz.f35) [1, 1, 1, 0, 1, 0, 0]) T H K) (cutT (tbs 35) 22) (cutT (tbs 35) 23) n (f35_T_L0 s0 s1 s6 s7) H
@[irreducible] def f35_A0 (k : Nat) (e : EX) (T : List Value) (H : AH) : Option (Value × AH) := resume Tryz.prog (rn k) k (tbs 35) (bodyOf Tryz.f35) [1, 1, 1, 0, 1, 0] e T H (resK Tryz.prog Tryz.f35.results.toList)
theorem f35_L0_succ (k : Nat) (s0 s1 s6 s7 : Value) (n : Nat) (H : AH) : f35_L0 k s0 s1 s6 s7 (n + 1) H =
(nilChk s0).bind fun v18 =>
(fldA Tryz.prog 36 v18 1).bind fun v19 =>
(ld Tryz.prog 34 H v19).bind fun v20 =>
(lenV Tryz.prog 34 v20).bind fun v21 =>
(bin Tryz.prog .lss 3 s7 v21).bind fun v22 =>
aIf v22
 ((nilChk s0).bind fun v23 =>
 (fldA Tryz.prog 36 v23 1).bind fun v24 =>
 (ld Tryz.prog 34 H v24).bind fun v25 =>
 (ixA Tryz.prog 34 v25 s7).bind fun v26 =>
 (fldA Tryz.prog 118 v26 0).bind fun v27 =>
 (ld Tryz.prog 3 H v27).bind fun v28 =>
 (bin Tryz.prog .eql 3 v28 s1).bind fun v29 =>
 aIf v29
  ((nilChk s0).bind fun v30 =>
  (fldA Tryz.prog 36 v30 1).bind fun v31 =>
  (ld Tryz.prog 34 H v31).bind fun v32 =>
  (ixA Tryz.prog 34 v32 s7).bind fun v33 =>
  (fldA Tryz.prog 118 v33 1).bind fun v34 =>
  (ld Tryz.prog 9 H v34).bind fun v35 =>
  (bin Tryz.prog .add 3 s7 (.int .i64 1)).bind fun v36 =>
  f35_L0 k s0 s1 v35 v36 n H)
  ((bin Tryz.prog .add 3 s7 (.int .i64 1)).bind fun v37 =>
  f35_L0 k s0 s1 s6 v37 n H))
 (some ((.exit 1), (f35_X_L0 s6), H)) := by kernel_rfl
theorem f35_A0_x1 (k : Nat) (s6 : Value) (H : AH) : f35_A0 k (.exit 1) (f35_X_L0 s6) H =
some ((.tuple #[s6, (.int .i64 0)]), H) := by kernel_rfl
theorem f35_eq (k : Nat) (a0 a1 : Value) (H : AH) : rn (k + 1) 35 [a0, a1] H =
(nilChk a0).bind fun v1 =>
(fldA Tryz.prog 36 v1 3).bind fun v2 =>
(ld Tryz.prog 4 H v2).bind fun v3 =>
aIf v3
 (some ((.tuple #[(.string ⟨#[]⟩), (.int .i64 7)]), H))
 ((bin Tryz.prog .lss 3 a1 (.int .i64 0)).bind fun v4 =>
 b2 (gOp v4 false (some (a1, H)) H) fun v5 h5 =>
 b2 (gOp v4 false (some (a0, h5)) h5) fun v6 h6 =>
 b2 (gOp v4 false ((nilChk v6).bind fun v => some (v, h6)) h6) fun v7 h7 =>
 b2 (gOp v4 false ((fldA Tryz.prog 36 v7 0).bind fun v => some (v, h7)) h7) fun v8 h8 =>
 b2 (gOp v4 false ((ld Tryz.prog 22 h8 v8).bind fun v => some (v, h8)) h8) fun v9 h9 =>
 b2 (gOp v4 false ((lenV Tryz.prog 22 v9).bind fun v => some (v, h9)) h9) fun v10 h10 =>
 b2 (gOp v4 false ((bin Tryz.prog .geq 3 v5 v10).bind fun v => some (v, h10)) h10) fun v11 h11 =>
 (pickV v4 (.bool true) v11).bind fun v12 =>
 aIf v12
  (some ((.tuple #[(.string ⟨#[]⟩), (.int .i64 1)]), h11))
  ((nilChk a0).bind fun v13 =>
  (fldA Tryz.prog 36 v13 0).bind fun v14 =>
  (ld Tryz.prog 22 h11 v14).bind fun v15 =>
  (ixA Tryz.prog 22 v15 a1).bind fun v16 =>
  (ld Tryz.prog 9 h11 v16).bind fun v17 =>
  (f35_L0 k a0 a1 v17 (.int .i64 0) k h11).bind fun p => f35_A0 k p.1 p.2.1 p.2.2)) := by kernel_rfl
abbrev f36_T_L0 (s0 s3 s6 s7 : Value) : List Value := [s0, unk, unk, s3, unk, unk, s6, s7] ++ List.replicate 15 unk
abbrev f36_X_L0 (s3 : Value) : List Value := [unk, unk, unk, s3] ++ List.replicate 19 unk
@[irreducible] def f36_L0 (k : Nat) (s0 s3 s6 s7 : Value) (n : Nat) (H : AH) : Option Out := iterD (fun T H K => evalK Tryz.prog (rn k) k (tbs 36) (codeAt (bodyOf Tryz.f36) [1, 1, 0, 1, 0, 0]) T H K) (cutT (tbs 36) 10) (cutT (tbs 36) 11) n (f36_T_L0 s0 s3 s6 s7) H
@[irreducible] def f36_A0 (k : Nat) (e : EX) (T : List Value) (H : AH) : Option (Value × AH) := resume Tryz.prog (rn k) k (tbs 36) (bodyOf Tryz.f36) [1, 1, 0, 1, 0] e T H (resK Tryz.prog Tryz.f36.results.toList)
theorem f36_L0_succ (k : Nat) (s0 s3 s6 s7 : Value) (n : Nat) (H : AH) : f36_L0 k s0 s3 s6 s7 (n + 1) H =
(bin Tryz.prog .lss 3 s7 s6).bind fun v2 =>
aIf v2
 ((nilChk s0).bind fun v3 =>
 (fldA Tryz.prog 85 v3 0).bind fun v4 =>
 (fldA Tryz.prog 83 v4 2).bind fun v5 =>
 (ld Tryz.prog 81 H v5).bind fun v6 =>
 (lkU Tryz.prog 81 H v6 s7 false).bind fun v7 =>
 aIf v7
  (b2 (buildS Tryz.prog 51 H 1 [(0, s7)]) fun v8 h8 =>
  b2 (ap Tryz.prog 51 51 h8 s3 v8) fun v9 h9 =>
  (bin Tryz.prog .add 3 s7 (.int .i64 1)).bind fun v10 =>
  f36_L0 k s0 v9 s6 v10 n h9)
  ((bin Tryz.prog .add 3 s7 (.int .i64 1)).bind fun v11 =>
  f36_L0 k s0 s3 s6 v11 n H))
 (some ((.exit 0), (f36_X_L0 s3), H)) := by kernel_rfl
theorem f36_A0_x0 (k : Nat) (s3 : Value) (H : AH) : f36_A0 k (.exit 0) (f36_X_L0 s3) H =
some (s3, H) := by kernel_rfl
theorem f36_eq (k : Nat) (a0 : Value) (H : AH) : rn (k + 1) 36 [a0] H =
b2 (rn k 41 [a0] H) fun v1 h1 =>
(f36_L0 k a0 (.slice none 0 0) v1 (.int .i64 0) k h1).bind fun p => f36_A0 k p.1 p.2.1 p.2.2 := by kernel_rfl
abbrev f37_T_L0 (s0 s3 s4 : Value) : List Value := [s0, unk, unk, s3, s4] ++ List.replicate 21 unk
abbrev f37_X_L0 (s3 : Value) : List Value := [unk, unk, unk, s3] ++ List.replicate 22 unk
@[irreducible] def f37_L0 (k : Nat) (s0 s3 s4 : Value) (n : Nat) (H : AH) : Option Out := iterD (fun T H K => evalK Tryz.prog (rn k) k (tbs 37) (codeAt (bodyOf Tryz.f37) [1, 1, 0, 1, 0, 0]) T H K) (cutT (tbs 37) 10) (cutT (tbs 37) 11) n (f37_T_L0 s0 s3 s4) H
@[irreducible] def f37_A0 (k : Nat) (e : EX) (T : List Value) (H : AH) : Option (Value × AH) := resume Tryz.prog (rn k) k (tbs 37) (bodyOf Tryz.f37) [1, 1, 0, 1, 0] e T H (resK Tryz.prog Tryz.f37.results.toList)
theorem f37_L0_succ (k : Nat) (s0 s3 s4 : Value) (n : Nat) (H : AH) : f37_L0 k s0 s3 s4 (n + 1) H =
(nilChk s0).bind fun v1 =>
(fldA Tryz.prog 76 v1 3).bind fun v2 =>
(ld Tryz.prog 74 H v2).bind fun v3 =>
(lenV Tryz.prog 74 v3).bind fun v4 =>
(bin Tryz.prog .lss 3 s4 v4).bind fun v5 =>
aIf v5
 ((nilChk s0).bind fun v6 =>
 (fldA Tryz.prog 76 v6 3).bind fun v7 =>
 (ld Tryz.prog 74 H v7).bind fun v8 =>
 (ixA Tryz.prog 74 v8 s4).bind fun v9 =>
 (ld Tryz.prog 4 H v9).bind fun v10 =>
 aIf v10
  (b2 (buildS Tryz.prog 51 H 1 [(0, s4)]) fun v11 h11 =>
  b2 (ap Tryz.prog 51 51 h11 s3 v11) fun v12 h12 =>
  (bin Tryz.prog .add 3 s4 (.int .i64 1)).bind fun v13 =>
  f37_L0 k s0 v12 v13 n h12)
  ((bin Tryz.prog .add 3 s4 (.int .i64 1)).bind fun v14 =>
  f37_L0 k s0 s3 v14 n H))
 (some ((.exit 0), (f37_X_L0 s3), H)) := by kernel_rfl
theorem f37_A0_x0 (k : Nat) (s3 : Value) (H : AH) : f37_A0 k (.exit 0) (f37_X_L0 s3) H =
some (s3, H) := by kernel_rfl
theorem f37_eq (k : Nat) (a0 : Value) (H : AH) : rn (k + 1) 37 [a0] H =
(f37_L0 k a0 (.slice none 0 0) (.int .i64 0) k H).bind fun p => f37_A0 k p.1 p.2.1 p.2.2 := by kernel_rfl
theorem f38_eq (k : Nat) (a0 : Value) (H : AH) : rn (k + 1) 38 [a0] H =
(nilChk a0).bind fun v1 =>
(fldA Tryz.prog 85 v1 0).bind fun v2 =>
(fldA Tryz.prog 83 v2 1).bind fun v3 =>
(ld Tryz.prog 3 H v3).bind fun v4 =>
some (v4, H) := by kernel_rfl
theorem f39_eq (k : Nat) (a0 : Value) (H : AH) : rn (k + 1) 39 [a0] H =
(nilChk a0).bind fun v1 =>
(fldA Tryz.prog 85 v1 0).bind fun v2 =>
(fldA Tryz.prog 83 v2 0).bind fun v3 =>
(ld Tryz.prog 3 H v3).bind fun v4 =>
some (v4, H) := by kernel_rfl
theorem f40_eq (k : Nat) (a0 : Value) (H : AH) : rn (k + 1) 40 [a0] H =
(nilChk a0).bind fun v1 =>
(fldA Tryz.prog 85 v1 3).bind fun v2 =>
(ld Tryz.prog 4 H v2).bind fun v3 =>
some (v3, H) := by kernel_rfl
theorem f41_eq (k : Nat) (a0 : Value) (H : AH) : rn (k + 1) 41 [a0] H =
(nilChk a0).bind fun v1 =>
(fldA Tryz.prog 85 v1 1).bind fun v2 =>
(ld Tryz.prog 27 H v2).bind fun v3 =>
b2 (rn k 52 [v3] H) fun v4 h4 =>
some (v4, h4) := by kernel_rfl
theorem f42_eq (k : Nat) (a0 a1 : Value) (H : AH) : rn (k + 1) 42 [a0, a1] H =
b2 (rn k 61 [a0, a1] H) fun v1 h1 =>
(bin Tryz.prog .geq 3 v1 (.int .i64 0)).bind fun v2 =>
some (v2, h1) := by kernel_rfl
abbrev f43_T_L0 (s0 s1 s5 : Value) : List Value := [s0, s1, unk, unk, unk, s5] ++ List.replicate 12 unk
abbrev f43_X_L0 (s4 : Value) : List Value := [unk, unk, unk, unk, s4] ++ List.replicate 13 unk
@[irreducible] def f43_L0 (k : Nat) (s0 s1 s5 : Value) (n : Nat) (H : AH) : Option Out := iterD (fun T H K => evalK Tryz.prog (rn k) k (tbs 43) (codeAt (bodyOf Tryz.f43) [1, 0, 1, 0, 0]) T H K) (cutT (tbs 43) 7) (cutT (tbs 43) 8) n (f43_T_L0 s0 s1 s5) H
@[irreducible] def f43_A0 (k : Nat) (e : EX) (T : List Value) (H : AH) : Option (Value × AH) := resume Tryz.prog (rn k) k (tbs 43) (bodyOf Tryz.f43) [1, 0, 1, 0] e T H (resK Tryz.prog Tryz.f43.results.toList)
theorem f43_L0_succ (k : Nat) (s0 s1 s5 : Value) (n : Nat) (H : AH) : f43_L0 k s0 s1 s5 (n + 1) H =
(lenV Tryz.prog 51 s0).bind fun v1 =>
(bin Tryz.prog .lss 3 s5 v1).bind fun v2 =>
aIf v2
 ((ixA Tryz.prog 51 s0 s5).bind fun v3 =>
 (ld Tryz.prog 3 H v3).bind fun v4 =>
 (bin Tryz.prog .eql 3 v4 s1).bind fun v5 =>
 aIf v5
  (some (.ret, (f43_X_L0 (.bool true)), H))
  ((bin Tryz.prog .add 3 s5 (.int .i64 1)).bind fun v6 =>
  f43_L0 k s0 s1 v6 n H))
 (some ((.exit 0), (f43_X_L0 unk), H)) := by kernel_rfl
theorem f43_A0_x0 (k : Nat) (s4 : Value) (H : AH) : f43_A0 k (.exit 0) (f43_X_L0 s4) H =
some ((.bool false), H) := by kernel_rfl
theorem f43_A0_ret (k : Nat) (s4 : Value) (H : AH) : f43_A0 k .ret (f43_X_L0 s4) H =
some (s4, H) := by kernel_rfl
theorem f43_eq (k : Nat) (a0 a1 : Value) (H : AH) : rn (k + 1) 43 [a0, a1] H =
(f43_L0 k a0 a1 (.int .i64 0) k H).bind fun p => f43_A0 k p.1 p.2.1 p.2.2 := by kernel_rfl
theorem f44_eq (k : Nat) (a0 a1 : Value) (H : AH) : rn (k + 1) 44 [a0, a1] H =
(nilChk a0).bind fun v1 =>
(fldA Tryz.prog 85 v1 3).bind fun v2 =>
(ld Tryz.prog 4 H v2).bind fun v3 =>
b2 (gOp v3 false (some (a1, H)) H) fun v4 h4 =>
b2 (gOp v3 false ((bin Tryz.prog .eql 37 v4 (.int .i64 7)).bind fun v => some (v, h4)) h4) fun v5 h5 =>
(pickV v3 (.bool true) v5).bind fun v6 =>
(nilChk a0).bind fun v7 =>
(fldA Tryz.prog 85 v7 3).bind fun v8 =>
(st Tryz.prog 4 h5 v8 v6).bind fun h9 =>
some (a1, h9) := by kernel_rfl
theorem f45_eq (k : Nat) (a0 a1 a2 a3 : Value) (H : AH) : rn (k + 1) 45 [a0, a1, a2, a3] H =
b2 (rn k 62 [a2, a3] H) fun v1 h1 =>
(ext v1 0).bind fun v2 =>
(ext v1 1).bind fun v3 =>
(bin Tryz.prog .neq 37 v3 (.int .i64 0)).bind fun v4 =>
b2 (gOp v4 false (some (a1, h1)) h1) fun v5 h5 =>
b2 (gOp v4 false ((bin Tryz.prog .lss 3 v5 (.int .i64 0)).bind fun v => some (v, h5)) h5) fun v6 h6 =>
(pickV v4 (.bool true) v6).bind fun v7 =>
b2 (gOp v7 false (some (a1, h6)) h6) fun v8 h8 =>
b2 (gOp v7 false ((bin Tryz.prog .gtr 3 v8 (.int .i64 1048576)).bind fun v => some (v, h8)) h8) fun v9 h9 =>
(pickV v7 (.bool true) v9).bind fun v10 =>
aIf v10
 (some ((.int .i64 1), h9))
 ((bin Tryz.prog .mul 3 (.int .i64 2) a1).bind fun v11 =>
 (slc Tryz.prog 9 v2 none (some (.int .i64 64))).bind fun v12 =>
 b2 (rn k 63 [a0, v11, v12] h9) fun v13 h13 =>
 (bin Tryz.prog .neq 37 v13 (.int .i64 0)).bind fun v14 =>
 aIf v14
  (some (v13, h13))
  ((bin Tryz.prog .mul 3 (.int .i64 2) a1).bind fun v15 =>
  (bin Tryz.prog .add 3 v15 (.int .i64 1)).bind fun v16 =>
  (slc Tryz.prog 9 v2 (some (.int .i64 64)) none).bind fun v17 =>
  b2 (rn k 63 [a0, v16, v17] h13) fun v18 h18 =>
  some (v18, h18))) := by kernel_rfl
abbrev f46_T_J0 (s1 : Value) : List Value := [unk, s1] ++ List.replicate 9 unk
@[irreducible] def f46_J0 (k : Nat) (s1 : Value) (H : AH) : Option (Value × AH) := resume Tryz.prog (rn k) k (tbs 46) (bodyOf Tryz.f46) [1, 0] .normal (f46_T_J0 s1) H (resK Tryz.prog Tryz.f46.results.toList)
theorem f46_J0_eq (k : Nat) (s1 : Value) (H : AH) : f46_J0 k s1 H =
some (s1, H) := by kernel_rfl
theorem f46_eq (k : Nat) (a0 a1 : Value) (H : AH) : rn (k + 1) 46 [a0, a1] H =
(bin Tryz.prog .eql 3 a1 (.int .i64 7)).bind fun v1 =>
aIf v1
 ((nilChk a0).bind fun v2 =>
 (fldA Tryz.prog 76 v2 5).bind fun v3 =>
 (st Tryz.prog 4 H v3 (.bool true)).bind fun h4 =>
 f46_J0 k a1 h4)
 (f46_J0 k a1 H) := by kernel_rfl
theorem f47_eq (k : Nat) (a0 a1 a2 a3 : Value) (H : AH) : rn (k + 1) 47 [a0, a1, a2, a3] H =
b2 (rn k 64 [a2, a3] H) fun v1 h1 =>
(ext v1 0).bind fun v2 =>
(ext v1 1).bind fun v3 =>
(un Tryz.prog .not v3).bind fun v4 =>
b2 (gOp v4 false (some (a1, h1)) h1) fun v5 h5 =>
b2 (gOp v4 false ((bin Tryz.prog .lss 3 v5 (.int .i64 0)).bind fun v => some (v, h5)) h5) fun v6 h6 =>
(pickV v4 (.bool true) v6).bind fun v7 =>
b2 (gOp v7 false (some (a1, h6)) h6) fun v8 h8 =>
b2 (gOp v7 false ((bin Tryz.prog .gtr 3 v8 (.int .i64 1048576)).bind fun v => some (v, h8)) h8) fun v9 h9 =>
(pickV v7 (.bool true) v9).bind fun v10 =>
aIf v10
 (some ((.int .i64 1), h9))
 ((bin Tryz.prog .mul 3 (.int .i64 2) a1).bind fun v11 =>
 (slc Tryz.prog 9 v2 none (some (.int .i64 64))).bind fun v12 =>
 b2 (rn k 65 [a0, v11, v12] h9) fun v13 h13 =>
 (bin Tryz.prog .neq 3 v13 (.int .i64 0)).bind fun v14 =>
 aIf v14
  (some (v13, h13))
  ((bin Tryz.prog .mul 3 (.int .i64 2) a1).bind fun v15 =>
  (bin Tryz.prog .add 3 v15 (.int .i64 1)).bind fun v16 =>
  (slc Tryz.prog 9 v2 (some (.int .i64 64)) none).bind fun v17 =>
  b2 (rn k 65 [a0, v16, v17] h13) fun v18 h18 =>
  some (v18, h18))) := by kernel_rfl
theorem f48_eq (k : Nat) (a0 a1 : Value) (H : AH) : rn (k + 1) 48 [a0, a1] H =
b2 (box 29 H a0) fun v1 h1 =>
b2 (box 3 h1 a1) fun v2 h2 =>
some ((.func (.func 66) #[] #[v2, v1]), h2) := by kernel_rfl
theorem f49_eq (k : Nat) (a0 a1 : Value) (H : AH) : rn (k + 1) 49 [a0, a1] H =
b2 (rn k 68 [a0] H) fun v1 h1 =>
(nilChk a0).bind fun v2 =>
(fldA Tryz.prog 92 v2 1).bind fun v3 =>
(ld Tryz.prog 63 h1 v3).bind fun v4 =>
b2 (ap Tryz.prog 63 9 h1 v4 a1) fun v5 h5 =>
(nilChk a0).bind fun v6 =>
(fldA Tryz.prog 92 v6 1).bind fun v7 =>
(st Tryz.prog 63 h5 v7 v5).bind fun h8 =>
(lenV Tryz.prog 9 a1).bind fun v9 =>
some ((.tuple #[v9, .nilIface]), h8) := by kernel_rfl
theorem f50_eq (k : Nat) (a0 : Value) (H : AH) : rn (k + 1) 50 [a0] H =
(nilChk a0).bind fun v1 =>
(fldA Tryz.prog 92 v1 1).bind fun v2 =>
(ld Tryz.prog 63 H v2).bind fun v3 =>
(sdV v3).bind fun v4 =>
(nilChk a0).bind fun v5 =>
(fldA Tryz.prog 92 v5 1).bind fun v6 =>
(ld Tryz.prog 63 H v6).bind fun v7 =>
(lenV Tryz.prog 63 v7).bind fun v8 =>
b2 (usV Tryz.prog 128 H v4 v8) fun v9 h9 =>
some (v9, h9) := by kernel_rfl
abbrev f51_T_L0 (s0 s7 s8 s9 : Value) : List Value := [s0, unk, unk, unk, unk, unk, unk, s7, s8, s9] ++ List.replicate 64 unk
abbrev f51_X_L0 (s4 s5 s6 : Value) : List Value := [unk, unk, unk, unk, s4, s5, s6] ++ List.replicate 67 unk
@[irreducible] def f51_L0 (k : Nat) (s0 s7 s8 s9 : Value) (n : Nat) (H : AH) : Option Out := iterD (fun T H K => evalK Tryz.prog (rn k) k (tbs 51) (codeAt (bodyOf Tryz.f51) [1, 1, 1, 1, 0, 0]) T H K) (cutT (tbs 51) 13) (cutT (tbs 51) 14) n (f51_T_L0 s0 s7 s8 s9) H
@[irreducible] def f51_A0 (k : Nat) (e : EX) (T : List Value) (H : AH) : Option (Value × AH) := resume Tryz.prog (rn k) k (tbs 51) (bodyOf Tryz.f51) [1, 1, 1, 1, 0] e T H (resK Tryz.prog Tryz.f51.results.toList)
theorem f51_L0_succ (k : Nat) (s0 s7 s8 s9 : Value) (n : Nat) (H : AH) : f51_L0 k s0 s7 s8 s9 (n + 1) H =
b2 (rn k 69 [s0, s9] H) fun v1 h1 =>
(ext v1 0).bind fun v2 =>
(ext v1 1).bind fun v3 =>
(ext v1 2).bind fun v4 =>
(bin Tryz.prog .neq 3 v4 (.int .i64 0)).bind fun v5 =>
aIf v5
 (some (.ret, (f51_X_L0 (.slice none 0 0) (.string ⟨#[]⟩) v4), h1))
 ((bin Tryz.prog .neq 3 v2 (.int .i64 2)).bind fun v6 =>
 b2 (gOp v6 false (some (v3, h1)) h1) fun v7 h7 =>
 b2 (gOp v6 false ((lenV Tryz.prog 9 v7).bind fun v => some (v, h7)) h7) fun v8 h8 =>
 b2 (gOp v6 false ((bin Tryz.prog .lss 3 v8 (.int .i64 2)).bind fun v => some (v, h8)) h8) fun v9 h9 =>
 (pickV v6 (.bool true) v9).bind fun v10 =>
 b2 (gOp v10 false (some (s7, h9)) h9) fun v11 h11 =>
 b2 (gOp v10 false ((lenV Tryz.prog 51 v11).bind fun v => some (v, h11)) h11) fun v12 h12 =>
 b2 (gOp v10 false ((bin Tryz.prog .geq 3 v12 (.int .i64 512)).bind fun v => some (v, h12)) h12) fun v13 h13 =>
 (pickV v10 (.bool true) v13).bind fun v14 =>
 aIf v14
  (some (.ret, (f51_X_L0 (.slice none 0 0) (.string ⟨#[]⟩) (.int .i64 2)), h13))
  (b2 (buildS Tryz.prog 51 h13 1 [(0, s9)]) fun v15 h15 =>
  b2 (ap Tryz.prog 51 51 h15 s7 v15) fun v16 h16 =>
  (slc Tryz.prog 9 v3 (some (.int .i64 2)) none).bind fun v17 =>
  (bin Tryz.prog .add 9 s8 v17).bind fun v18 =>
  (ix Tryz.prog 9 v3 (.int .i64 0)).bind fun v19 =>
  (cv Tryz.prog 5 3 v19).bind fun v20 =>
  (bin Tryz.prog .shl 3 v20 (.int .u64 8)).bind fun v21 =>
  (ix Tryz.prog 9 v3 (.int .i64 1)).bind fun v22 =>
  (cv Tryz.prog 5 3 v22).bind fun v23 =>
  (bin Tryz.prog .or 3 v21 v23).bind fun v24 =>
  (bin Tryz.prog .eql 3 v24 (.int .i64 0)).bind fun v25 =>
  aIf v25
   (some (.ret, (f51_X_L0 v16 v18 (.int .i64 0)), h16))
   ((bin Tryz.prog .eql 3 v24 (.int .i64 1)).bind fun v26 =>
   b2 (gOp v26 false (some (v24, h16)) h16) fun v27 h27 =>
   b2 (gOp v26 false (some (s0, h27)) h27) fun v28 h28 =>
   b2 (gOp v26 false ((nilChk v28).bind fun v => some (v, h28)) h28) fun v29 h29 =>
   b2 (gOp v26 false ((fldA Tryz.prog 76 v29 3).bind fun v => some (v, h29)) h29) fun v30 h30 =>
   b2 (gOp v26 false ((ld Tryz.prog 74 h30 v30).bind fun v => some (v, h30)) h30) fun v31 h31 =>
   b2 (gOp v26 false ((lenV Tryz.prog 74 v31).bind fun v => some (v, h31)) h31) fun v32 h32 =>
   b2 (gOp v26 false ((bin Tryz.prog .geq 3 v27 v32).bind fun v => some (v, h32)) h32) fun v33 h33 =>
   (pickV v26 (.bool true) v33).bind fun v34 =>
   b2 (gOp v34 false (some (v16, h33)) h33) fun v35 h35 =>
   b2 (gOp v34 false (some (v24, h35)) h35) fun v36 h36 =>
   b2 (gOp v34 false (b2 (rn k 70 [v35, v36] h36) fun v h => some (v, h)) h36) fun v37 h37 =>
   (pickV v34 (.bool true) v37).bind fun v38 =>
   aIf v38
    (some (.ret, (f51_X_L0 (.slice none 0 0) (.string ⟨#[]⟩) (.int .i64 2)), h37))
    (f51_L0 k s0 v16 v18 v24 n h37)))) := by kernel_rfl
theorem f51_A0_ret (k : Nat) (s4 s5 s6 : Value) (H : AH) : f51_A0 k .ret (f51_X_L0 s4 s5 s6) H =
some ((.tuple #[s4, s5, s6]), H) := by kernel_rfl
theorem f51_eq (k : Nat) (a0 a1 : Value) (H : AH) : rn (k + 1) 51 [a0, a1] H =
(f51_L0 k a0 (.slice none 0 0) (.string ⟨#[]⟩) a1 k H).bind fun p => f51_A0 k p.1 p.2.1 p.2.2 := by kernel_rfl
theorem f52_eq (k : Nat) (a0 : Value) (H : AH) : rn (k + 1) 52 [a0] H =
b2 (rn k 32 [a0] H) fun v1 h1 =>
(bin Tryz.prog .quo 3 v1 (.int .i64 2)).bind fun v2 =>
some (v2, h1) := by kernel_rfl
theorem f53_eq (k : Nat) (a0 a1 : Value) (H : AH) : rn (k + 1) 53 [a0, a1] H =
b2 (box 83 H a0) fun v1 h1 =>
(fldA Tryz.prog 83 v1 0).bind fun v2 =>
(ld Tryz.prog 3 h1 v2).bind fun v3 =>
(bin Tryz.prog .rem 3 v3 (.int .i64 2)).bind fun v4 =>
(ld Tryz.prog 83 h1 v1).bind fun v5 =>
b2 (rn k 71 [v5] h1) fun v6 h6 =>
aChk (ld Tryz.prog 3 h6 v2 = some v3) <|
b2 (rn k 45 [a1, v4, (.int .i64 1), v6] h6) fun v7 h7 =>
some (v7, h7) := by kernel_rfl
theorem f54_eq (k : Nat) (a0 : Value) (H : AH) : rn (k + 1) 54 [a0] H =
b2 (box 27 H a0) fun v1 h1 =>
(ld Tryz.prog 27 h1 v1).bind fun v2 =>
(nilChk v2).bind fun v3 =>
(fldA Tryz.prog 71 v3 3).bind fun v4 =>
(ld Tryz.prog 4 h1 v4).bind fun v5 =>
aIf v5
 (some ((.int .i64 7), h1))
 ((ld Tryz.prog 27 h1 v1).bind fun v6 =>
 b2 (rn k 72 [v6, (.func (.func 73) #[] #[v1])] h1) fun v7 h7 =>
 some (v7, h7)) := by kernel_rfl
abbrev f55_T_L0 (s0 s3 s4 : Value) : List Value := [s0, unk, unk, s3, s4] ++ List.replicate 25 unk
abbrev f55_X_L0 (s3 : Value) : List Value := [unk, unk, unk, s3] ++ List.replicate 26 unk
@[irreducible] def f55_L0 (k : Nat) (s0 s3 s4 : Value) (n : Nat) (H : AH) : Option Out := iterD (fun T H K => evalK Tryz.prog (rn k) k (tbs 55) (codeAt (bodyOf Tryz.f55) [1, 1, 1, 0, 1, 0, 0]) T H K) (cutT (tbs 55) 16) (cutT (tbs 55) 17) n (f55_T_L0 s0 s3 s4) H
@[irreducible] def f55_A0 (k : Nat) (e : EX) (T : List Value) (H : AH) : Option (Value × AH) := resume Tryz.prog (rn k) k (tbs 55) (bodyOf Tryz.f55) [1, 1, 1, 0, 1, 0] e T H (resK Tryz.prog Tryz.f55.results.toList)
theorem f55_L0_succ (k : Nat) (s0 s3 s4 : Value) (n : Nat) (H : AH) : f55_L0 k s0 s3 s4 (n + 1) H =
(bin Tryz.prog .lss 3 s4 s0).bind fun v7 =>
aIf v7
 ((nilChk s3).bind fun v8 =>
 (fldA Tryz.prog 36 v8 0).bind fun v9 =>
 (ld Tryz.prog 22 H v9).bind fun v10 =>
 b2 (mkS Tryz.prog 63 H (.int .i64 64) (.int .i64 64)) fun v11 h11 =>
 (cvS Tryz.prog 63 9 h11 v11).bind fun v12 =>
 b2 (buildS Tryz.prog 22 h11 1 [(0, v12)]) fun v13 h13 =>
 b2 (ap Tryz.prog 22 22 h13 v10 v13) fun v14 h14 =>
 (nilChk s3).bind fun v15 =>
 (fldA Tryz.prog 36 v15 0).bind fun v16 =>
 (st Tryz.prog 22 h14 v16 v14).bind fun h17 =>
 (bin Tryz.prog .add 3 s4 (.int .i64 1)).bind fun v18 =>
 f55_L0 k s0 s3 v18 n h17)
 (some ((.exit 0), (f55_X_L0 s3), H)) := by kernel_rfl
theorem f55_A0_x0 (k : Nat) (s3 : Value) (H : AH) : f55_A0 k (.exit 0) (f55_X_L0 s3) H =
some (s3, H) := by kernel_rfl
theorem f55_eq (k : Nat) (a0 : Value) (H : AH) : rn (k + 1) 55 [a0] H =
(bin Tryz.prog .lss 3 a0 (.int .i64 1)).bind fun v1 =>
b2 (gOp v1 false (some (a0, H)) H) fun v2 h2 =>
b2 (gOp v1 false ((bin Tryz.prog .gtr 3 v2 (.int .i64 1024)).bind fun v => some (v, h2)) h2) fun v3 h3 =>
(pickV v1 (.bool true) v3).bind fun v4 =>
aIf v4
 (some ((.pointer none), h3))
 ((build Tryz.prog 36 [(2, (.int .i64 (-1)))]).bind fun v5 =>
 b2 (box 36 h3 v5) fun v6 h6 =>
 (f55_L0 k a0 v6 (.int .i64 0) k h6).bind fun p => f55_A0 k p.1 p.2.1 p.2.2) := by kernel_rfl
theorem f56_eq (k : Nat) (a0 : Value) (H : AH) : rn (k + 1) 56 [a0] H =
(nilChk a0).bind fun v1 =>
(fldA Tryz.prog 36 v1 0).bind fun v2 =>
(ld Tryz.prog 22 H v2).bind fun v3 =>
(lenV Tryz.prog 22 v3).bind fun v4 =>
(bin Tryz.prog .quo 3 v4 (.int .i64 2)).bind fun v5 =>
some (v5, H) := by kernel_rfl
abbrev f57_T_L0 (s0 s1 s2 s7 s8 : Value) : List Value := [s0, s1, s2, unk, unk, unk, unk, s7, s8] ++ List.replicate 51 unk
abbrev f57_X_L0 (s1 s2 s7 : Value) : List Value := [unk, s1, s2, unk, unk, unk, unk, s7] ++ List.replicate 52 unk
abbrev f57_T_L1 (s2 s7 s9 : Value) : List Value := [unk, unk, s2, unk, unk, unk, unk, s7, unk, s9] ++ List.replicate 50 unk
abbrev f57_X_L1 (s7 : Value) : List Value := [unk, unk, unk, unk, unk, unk, unk, s7] ++ List.replicate 52 unk
@[irreducible] def f57_L0 (k : Nat) (s0 s1 s2 s7 s8 : Value) (n : Nat) (H : AH) : Option Out := iterD (fun T H K => evalK Tryz.prog (rn k) k (tbs 57) (codeAt (bodyOf Tryz.f57) [1, 1, 0, 1, 0, 0]) T H K) (cutT (tbs 57) 10) (cutT (tbs 57) 11) n (f57_T_L0 s0 s1 s2 s7 s8) H
@[irreducible] def f57_A0 (k : Nat) (e : EX) (T : List Value) (H : AH) : Option (Value × AH) := resume Tryz.prog (rn k) k (tbs 57) (bodyOf Tryz.f57) [1, 1, 0, 1, 0] e T H (resK Tryz.prog Tryz.f57.results.toList)
@[irreducible] def f57_L1 (k : Nat) (s2 s7 s9 : Value) (n : Nat) (H : AH) : Option Out := iterD (fun T H K => evalK Tryz.prog (rn k) k (tbs 57) (codeAt (bodyOf Tryz.f57) [1, 1, 1, 1, 1, 0, 1, 0, 0]) T H K) (cutT (tbs 57) 28) (cutT (tbs 57) 29) n (f57_T_L1 s2 s7 s9) H
@[irreducible] def f57_A1 (k : Nat) (e : EX) (T : List Value) (H : AH) : Option (Value × AH) := resume Tryz.prog (rn k) k (tbs 57) (bodyOf Tryz.f57) [1, 1, 1, 1, 1, 0, 1, 0] e T H (resK Tryz.prog Tryz.f57.results.toList)
theorem f57_L0_succ (k : Nat) (s0 s1 s2 s7 s8 : Value) (n : Nat) (H : AH) : f57_L0 k s0 s1 s2 s7 s8 (n + 1) H =
(bin Tryz.prog .lss 3 s8 (.int .i64 6)).bind fun v2 =>
aIf v2
 ((bin Tryz.prog .sub 3 (.int .i64 5) s8).bind fun v3 =>
 (bin Tryz.prog .mul 3 (.int .i64 8) s8).bind fun v4 =>
 (bin Tryz.prog .shr 3 s0 v4).bind fun v5 =>
 (cv Tryz.prog 3 5 v5).bind fun v6 =>
 (ixA Tryz.prog 63 s7 v3).bind fun v7 =>
 (st Tryz.prog 5 H v7 v6).bind fun h8 =>
 (bin Tryz.prog .add 3 s8 (.int .i64 1)).bind fun v9 =>
 f57_L0 k s0 s1 s2 s7 v9 n h8)
 (some ((.exit 0), (f57_X_L0 s1 s2 s7), H)) := by kernel_rfl
theorem f57_A0_x0 (k : Nat) (s1 s2 s7 : Value) (H : AH) : f57_A0 k (.exit 0) (f57_X_L0 s1 s2 s7) H =
(bin Tryz.prog .shr 3 s1 (.int .u64 8)).bind fun v10 =>
(cv Tryz.prog 3 5 v10).bind fun v11 =>
(ixA Tryz.prog 63 s7 (.int .i64 6)).bind fun v12 =>
(st Tryz.prog 5 H v12 v11).bind fun h13 =>
(cv Tryz.prog 3 5 s1).bind fun v14 =>
(ixA Tryz.prog 63 s7 (.int .i64 7)).bind fun v15 =>
(st Tryz.prog 5 h13 v15 v14).bind fun h16 =>
(f57_L1 k s2 s7 (.int .i64 0) k h16).bind fun p => f57_A1 k p.1 p.2.1 p.2.2 := by kernel_rfl
theorem f57_L1_succ (k : Nat) (s2 s7 s9 : Value) (n : Nat) (H : AH) : f57_L1 k s2 s7 s9 (n + 1) H =
(lenV Tryz.prog 74 s2).bind fun v17 =>
(bin Tryz.prog .lss 3 s9 v17).bind fun v18 =>
aIf v18
 ((ixA Tryz.prog 74 s2 s9).bind fun v19 =>
 (ld Tryz.prog 4 H v19).bind fun v20 =>
 aIf v20
  ((bin Tryz.prog .quo 3 s9 (.int .i64 8)).bind fun v21 =>
  (bin Tryz.prog .add 3 (.int .i64 8) v21).bind fun v22 =>
  (bin Tryz.prog .quo 3 s9 (.int .i64 8)).bind fun v23 =>
  (bin Tryz.prog .add 3 (.int .i64 8) v23).bind fun v24 =>
  (ixA Tryz.prog 63 s7 v24).bind fun v25 =>
  (ld Tryz.prog 5 H v25).bind fun v26 =>
  (bin Tryz.prog .rem 3 s9 (.int .i64 8)).bind fun v27 =>
  (bin Tryz.prog .shl 5 (.int .u8 1) v27).bind fun v28 =>
  (bin Tryz.prog .or 5 v26 v28).bind fun v29 =>
  (ixA Tryz.prog 63 s7 v22).bind fun v30 =>
  (st Tryz.prog 5 H v30 v29).bind fun h31 =>
  (bin Tryz.prog .add 3 s9 (.int .i64 1)).bind fun v32 =>
  f57_L1 k s2 s7 v32 n h31)
  ((bin Tryz.prog .add 3 s9 (.int .i64 1)).bind fun v33 =>
  f57_L1 k s2 s7 v33 n H))
 (some ((.exit 2), (f57_X_L1 s7), H)) := by kernel_rfl
theorem f57_A1_x2 (k : Nat) (s7 : Value) (H : AH) : f57_A1 k (.exit 2) (f57_X_L1 s7) H =
(cvS Tryz.prog 63 9 H s7).bind fun v34 =>
some (v34, H) := by kernel_rfl
theorem f57_eq (k : Nat) (a0 a1 a2 : Value) (H : AH) : rn (k + 1) 57 [a0, a1, a2] H =
b2 (mkS Tryz.prog 63 H (.int .i64 72) (.int .i64 72)) fun v1 h1 =>
(f57_L0 k a0 a1 a2 v1 (.int .i64 0) k h1).bind fun p => f57_A0 k p.1 p.2.1 p.2.2 := by kernel_rfl
abbrev f58_T_L0 (s0 s3 : Value) : List Value := [s0, unk, unk, s3] ++ List.replicate 42 unk
abbrev f58_X_L0 (s0 : Value) : List Value := [s0] ++ List.replicate 45 unk
@[irreducible] def f58_L0 (k : Nat) (s0 s3 : Value) (n : Nat) (H : AH) : Option Out := iterD (fun T H K => evalK Tryz.prog (rn k) k (tbs 58) (codeAt (bodyOf Tryz.f58) [1, 1, 0, 1, 0, 0]) T H K) (cutT (tbs 58) 19) (cutT (tbs 58) 20) n (f58_T_L0 s0 s3) H
@[irreducible] def f58_A0 (k : Nat) (e : EX) (T : List Value) (H : AH) : Option (Value × AH) := resume Tryz.prog (rn k) k (tbs 58) (bodyOf Tryz.f58) [1, 1, 0, 1, 0] e T H (resK Tryz.prog Tryz.f58.results.toList)
theorem f58_L0_succ (k : Nat) (s0 s3 : Value) (n : Nat) (H : AH) : f58_L0 k s0 s3 (n + 1) H =
(nilChk s0).bind fun v6 =>
(fldA Tryz.prog 36 v6 1).bind fun v7 =>
(ld Tryz.prog 34 H v7).bind fun v8 =>
(lenV Tryz.prog 34 v8).bind fun v9 =>
(bin Tryz.prog .lss 3 s3 v9).bind fun v10 =>
aIf v10
 ((nilChk s0).bind fun v11 =>
 (fldA Tryz.prog 36 v11 0).bind fun v12 =>
 (ld Tryz.prog 22 H v12).bind fun v13 =>
 (nilChk s0).bind fun v14 =>
 (fldA Tryz.prog 36 v14 1).bind fun v15 =>
 (ld Tryz.prog 34 H v15).bind fun v16 =>
 (ixA Tryz.prog 34 v16 s3).bind fun v17 =>
 (fldA Tryz.prog 118 v17 0).bind fun v18 =>
 (ld Tryz.prog 3 H v18).bind fun v19 =>
 (nilChk s0).bind fun v20 =>
 (fldA Tryz.prog 36 v20 1).bind fun v21 =>
 (ld Tryz.prog 34 H v21).bind fun v22 =>
 (ixA Tryz.prog 34 v22 s3).bind fun v23 =>
 (fldA Tryz.prog 118 v23 1).bind fun v24 =>
 (ld Tryz.prog 9 H v24).bind fun v25 =>
 (ixA Tryz.prog 22 v13 v19).bind fun v26 =>
 (st Tryz.prog 9 H v26 v25).bind fun h27 =>
 (bin Tryz.prog .add 3 s3 (.int .i64 1)).bind fun v28 =>
 f58_L0 k s0 v28 n h27)
 (some ((.exit 1), (f58_X_L0 s0), H)) := by kernel_rfl
theorem f58_A0_x1 (k : Nat) (s0 : Value) (H : AH) : f58_A0 k (.exit 1) (f58_X_L0 s0) H =
(nilChk s0).bind fun v29 =>
(fldA Tryz.prog 36 v29 1).bind fun v30 =>
(st Tryz.prog 34 H v30 (.slice none 0 0)).bind fun h31 =>
some ((.int .i64 0), h31) := by kernel_rfl
theorem f58_eq (k : Nat) (a0 : Value) (H : AH) : rn (k + 1) 58 [a0] H =
(nilChk a0).bind fun v1 =>
(fldA Tryz.prog 36 v1 3).bind fun v2 =>
(ld Tryz.prog 4 H v2).bind fun v3 =>
aIf v3
 (some ((.int .i64 7), H))
 (b2 (rn k 75 [a0] H) fun v4 h4 =>
 (un Tryz.prog .not v4).bind fun v5 =>
 aIf v5
  (some ((.int .i64 7), h4))
  ((f58_L0 k a0 (.int .i64 0) k h4).bind fun p => f58_A0 k p.1 p.2.1 p.2.2)) := by kernel_rfl
theorem f59_eq (k : Nat) (a0 : Value) (H : AH) : rn (k + 1) 59 [a0] H =
(bin Tryz.prog .eql 51 a0 (.slice none 0 0)).bind fun v1 =>
aIf v1
 (some ((.slice none 0 0), H))
 (b2 (buildS Tryz.prog 51 H 0 []) fun v2 h2 =>
 b2 (ap Tryz.prog 51 51 h2 v2 a0) fun v3 h3 =>
 some (v3, h3)) := by kernel_rfl
theorem f60_eq (k : Nat) (a0 : Value) (H : AH) : rn (k + 1) 60 [a0] H =
b2 (box 69 H a0) fun v1 h1 =>
some ((.func (.func 76) #[] #[v1]), h1) := by kernel_rfl
abbrev f61_T_L0 (s0 s1 s7 s8 : Value) : List Value := [s0, s1, unk, unk, unk, unk, unk, s7, s8] ++ List.replicate 10 unk
abbrev f61_X_L0 (s4 : Value) : List Value := [unk, unk, unk, unk, s4] ++ List.replicate 14 unk
@[irreducible] def f61_L0 (k : Nat) (s0 s1 s7 s8 : Value) (n : Nat) (H : AH) : Option Out := iterD (fun T H K => evalK Tryz.prog (rn k) k (tbs 61) (codeAt (bodyOf Tryz.f61) [1, 0, 1, 0, 0]) T H K) (cutT (tbs 61) 7) (cutT (tbs 61) 8) n (f61_T_L0 s0 s1 s7 s8) H
@[irreducible] def f61_A0 (k : Nat) (e : EX) (T : List Value) (H : AH) : Option (Value × AH) := resume Tryz.prog (rn k) k (tbs 61) (bodyOf Tryz.f61) [1, 0, 1, 0] e T H (resK Tryz.prog Tryz.f61.results.toList)
theorem f61_L0_succ (k : Nat) (s0 s1 s7 s8 : Value) (n : Nat) (H : AH) : f61_L0 k s0 s1 s7 s8 (n + 1) H =
(bin Tryz.prog .lss 3 s8 s7).bind fun v2 =>
aIf v2
 ((ixA Tryz.prog 51 s0 s8).bind fun v3 =>
 (ld Tryz.prog 3 H v3).bind fun v4 =>
 (bin Tryz.prog .eql 3 s1 v4).bind fun v5 =>
 aIf v5
  (some (.ret, (f61_X_L0 s8), H))
  ((bin Tryz.prog .add 3 s8 (.int .i64 1)).bind fun v6 =>
  f61_L0 k s0 s1 s7 v6 n H))
 (some ((.exit 0), (f61_X_L0 unk), H)) := by kernel_rfl
theorem f61_A0_x0 (k : Nat) (s4 : Value) (H : AH) : f61_A0 k (.exit 0) (f61_X_L0 s4) H =
some ((.int .i64 (-1)), H) := by kernel_rfl
theorem f61_A0_ret (k : Nat) (s4 : Value) (H : AH) : f61_A0 k .ret (f61_X_L0 s4) H =
some (s4, H) := by kernel_rfl
theorem f61_eq (k : Nat) (a0 a1 : Value) (H : AH) : rn (k + 1) 61 [a0, a1] H =
(lenV Tryz.prog 51 a0).bind fun v1 =>
(f61_L0 k a0 a1 v1 (.int .i64 0) k H).bind fun p => f61_A0 k p.1 p.2.1 p.2.2 := by kernel_rfl
theorem f62_eq (k : Nat) (a0 a1 : Value) (H : AH) : rn (k + 1) 62 [a0, a1] H =
(bin Tryz.prog .lss 3 a0 (.int .i64 1)).bind fun v1 =>
b2 (gOp v1 false (some (a0, H)) H) fun v2 h2 =>
b2 (gOp v1 false ((bin Tryz.prog .gtr 3 v2 (.int .i64 9)).bind fun v => some (v, h2)) h2) fun v3 h3 =>
(pickV v1 (.bool true) v3).bind fun v4 =>
b2 (gOp v4 false (some (a1, h3)) h3) fun v5 h5 =>
b2 (gOp v4 false ((lenV Tryz.prog 9 v5).bind fun v => some (v, h5)) h5) fun v6 h6 =>
b2 (gOp v4 false ((bin Tryz.prog .gtr 3 v6 (.int .i64 120)).bind fun v => some (v, h6)) h6) fun v7 h7 =>
(pickV v4 (.bool true) v7).bind fun v8 =>
aIf v8
 (some ((.tuple #[(.string ⟨#[]⟩), (.int .i64 1)]), h7))
 ((cv Tryz.prog 3 135 a0).bind fun v9 =>
 (lenV Tryz.prog 9 a1).bind fun v10 =>
 (cv Tryz.prog 3 135 v10).bind fun v11 =>
 b2 (buildS Tryz.prog 143 h7 2 [(0, v9), (1, v11)]) fun v12 h12 =>
 b2 (rn k 77 [v12] h12) fun v13 h13 =>
 (bin Tryz.prog .add 9 (.string ⟨#[65, 83]⟩) v13).bind fun v14 =>
 (bin Tryz.prog .add 9 v14 a1).bind fun v15 =>
 (lenV Tryz.prog 9 v15).bind fun v16 =>
 (bin Tryz.prog .sub 3 (.int .i64 124) v16).bind fun v17 =>
 b2 (rn k 78 [(.string ⟨#[0]⟩), v17] h13) fun v18 h18 =>
 (bin Tryz.prog .add 9 v15 v18).bind fun v19 =>
 b2 (rn k 79 [v19] h18) fun v20 h20 =>
 (bin Tryz.prog .add 9 v19 v20).bind fun v21 =>
 some ((.tuple #[v21, (.int .i64 0)]), h20)) := by kernel_rfl
theorem f63_eq (k : Nat) (a0 a1 a2 : Value) (H : AH) : rn (k + 1) 63 [a0, a1, a2] H =
b2 (box 27 H a0) fun v1 h1 =>
b2 (box 3 h1 a1) fun v2 h2 =>
b2 (box 9 h2 a2) fun v3 h3 =>
(ld Tryz.prog 27 h3 v1).bind fun v4 =>
(nilChk v4).bind fun v5 =>
(fldA Tryz.prog 71 v5 3).bind fun v6 =>
(ld Tryz.prog 4 h3 v6).bind fun v7 =>
aIf v7
 (some ((.int .i64 7), h3))
 ((ld Tryz.prog 3 h3 v2).bind fun v8 =>
 (bin Tryz.prog .lss 3 v8 (.int .i64 0)).bind fun v9 =>
 b2 (gOp v9 false ((ld Tryz.prog 3 h3 v2).bind fun v => some (v, h3)) h3) fun v10 h10 =>
 b2 (gOp v9 false ((ld Tryz.prog 27 h3 v1).bind fun v => some (v, h3)) h3) fun v11 h11 =>
 b2 (gOp v9 false (b2 (rn k 32 [v11] h3) fun v h => some (v, h)) h3) fun v12 h12 =>
 aChk (v9 = .bool false → ld Tryz.prog 3 h12 v2 = some v10) <|
 b2 (gOp v9 false ((bin Tryz.prog .geq 3 v10 v12).bind fun v => some (v, h12)) h12) fun v13 h13 =>
 (pickV v9 (.bool true) v13).bind fun v14 =>
 b2 (gOp v14 false ((ld Tryz.prog 9 h13 v3).bind fun v => some (v, h13)) h13) fun v15 h15 =>
 b2 (gOp v14 false ((lenV Tryz.prog 9 v15).bind fun v => some (v, h13)) h13) fun v16 h16 =>
 b2 (gOp v14 false ((bin Tryz.prog .neq 3 v16 (.int .i64 64)).bind fun v => some (v, h16)) h16) fun v17 h17 =>
 (pickV v14 (.bool true) v17).bind fun v18 =>
 aIf v18
  (some ((.int .i64 1), h17))
  ((ld Tryz.prog 27 h17 v1).bind fun v19 =>
  b2 (rn k 72 [v19, (.func (.func 80) #[] #[v1, v2, v3])] h17) fun v20 h20 =>
  some (v20, h20))) := by kernel_rfl
theorem f64_eq (k : Nat) (a0 a1 : Value) (H : AH) : rn (k + 1) 64 [a0, a1] H =
(bin Tryz.prog .lss 3 a0 (.int .i64 1)).bind fun v1 =>
b2 (gOp v1 false (some (a0, H)) H) fun v2 h2 =>
b2 (gOp v1 false ((bin Tryz.prog .gtr 3 v2 (.int .i64 9)).bind fun v => some (v, h2)) h2) fun v3 h3 =>
(pickV v1 (.bool true) v3).bind fun v4 =>
b2 (gOp v4 false (some (a1, h3)) h3) fun v5 h5 =>
b2 (gOp v4 false ((lenV Tryz.prog 9 v5).bind fun v => some (v, h5)) h5) fun v6 h6 =>
b2 (gOp v4 false ((bin Tryz.prog .gtr 3 v6 (.int .i64 120)).bind fun v => some (v, h6)) h6) fun v7 h7 =>
(pickV v4 (.bool true) v7).bind fun v8 =>
aIf v8
 (some ((.tuple #[(.string ⟨#[]⟩), (.bool false)]), h7))
 ((cv Tryz.prog 3 5 a0).bind fun v9 =>
 (lenV Tryz.prog 9 a1).bind fun v10 =>
 (cv Tryz.prog 3 5 v10).bind fun v11 =>
 b2 (buildS Tryz.prog 63 h7 2 [(0, v9), (1, v11)]) fun v12 h12 =>
 (cvS Tryz.prog 63 9 h12 v12).bind fun v13 =>
 (bin Tryz.prog .add 9 (.string ⟨#[65, 83]⟩) v13).bind fun v14 =>
 (bin Tryz.prog .add 9 v14 a1).bind fun v15 =>
 (lenV Tryz.prog 9 v15).bind fun v16 =>
 (bin Tryz.prog .sub 3 (.int .i64 124) v16).bind fun v17 =>
 b2 (mkS Tryz.prog 63 h12 v17 v17) fun v18 h18 =>
 (cvS Tryz.prog 63 9 h18 v18).bind fun v19 =>
 (bin Tryz.prog .add 9 v15 v19).bind fun v20 =>
 b2 (rn k 81 [v20] h18) fun v21 h21 =>
 (cv Tryz.prog 135 5 v21).bind fun v22 =>
 (bin Tryz.prog .shr 135 v21 (.int .u64 8)).bind fun v23 =>
 (cv Tryz.prog 135 5 v23).bind fun v24 =>
 (bin Tryz.prog .shr 135 v21 (.int .u64 16)).bind fun v25 =>
 (cv Tryz.prog 135 5 v25).bind fun v26 =>
 (bin Tryz.prog .shr 135 v21 (.int .u64 24)).bind fun v27 =>
 (cv Tryz.prog 135 5 v27).bind fun v28 =>
 b2 (buildS Tryz.prog 63 h21 4 [(0, v22), (1, v24), (2, v26), (3, v28)]) fun v29 h29 =>
 (cvS Tryz.prog 63 9 h29 v29).bind fun v30 =>
 (bin Tryz.prog .add 9 v20 v30).bind fun v31 =>
 some ((.tuple #[v31, (.bool true)]), h29)) := by kernel_rfl
theorem f65_eq (k : Nat) (a0 a1 a2 : Value) (H : AH) : rn (k + 1) 65 [a0, a1, a2] H =
(nilChk a0).bind fun v1 =>
(fldA Tryz.prog 36 v1 3).bind fun v2 =>
(ld Tryz.prog 4 H v2).bind fun v3 =>
aIf v3
 (some ((.int .i64 7), H))
 ((bin Tryz.prog .lss 3 a1 (.int .i64 0)).bind fun v4 =>
 b2 (gOp v4 false (some (a1, H)) H) fun v5 h5 =>
 b2 (gOp v4 false (some (a0, h5)) h5) fun v6 h6 =>
 b2 (gOp v4 false ((nilChk v6).bind fun v => some (v, h6)) h6) fun v7 h7 =>
 b2 (gOp v4 false ((fldA Tryz.prog 36 v7 0).bind fun v => some (v, h7)) h7) fun v8 h8 =>
 b2 (gOp v4 false ((ld Tryz.prog 22 h8 v8).bind fun v => some (v, h8)) h8) fun v9 h9 =>
 b2 (gOp v4 false ((lenV Tryz.prog 22 v9).bind fun v => some (v, h9)) h9) fun v10 h10 =>
 b2 (gOp v4 false ((bin Tryz.prog .geq 3 v5 v10).bind fun v => some (v, h10)) h10) fun v11 h11 =>
 (pickV v4 (.bool true) v11).bind fun v12 =>
 b2 (gOp v12 false (some (a2, h11)) h11) fun v13 h13 =>
 b2 (gOp v12 false ((lenV Tryz.prog 9 v13).bind fun v => some (v, h13)) h13) fun v14 h14 =>
 b2 (gOp v12 false ((bin Tryz.prog .neq 3 v14 (.int .i64 64)).bind fun v => some (v, h14)) h14) fun v15 h15 =>
 (pickV v12 (.bool true) v15).bind fun v16 =>
 aIf v16
  (some ((.int .i64 1), h15))
  (b2 (rn k 75 [a0] h15) fun v17 h17 =>
  (un Tryz.prog .not v17).bind fun v18 =>
  aIf v18
   (some ((.int .i64 7), h17))
   ((nilChk a0).bind fun v19 =>
   (fldA Tryz.prog 36 v19 1).bind fun v20 =>
   (ld Tryz.prog 34 h17 v20).bind fun v21 =>
   (nilChk a0).bind fun v22 =>
   (fldA Tryz.prog 36 v22 1).bind fun v23 =>
   (ld Tryz.prog 34 h17 v23).bind fun v24 =>
   (lenV Tryz.prog 34 v24).bind fun v25 =>
   (nilChk a0).bind fun v26 =>
   (fldA Tryz.prog 36 v26 1).bind fun v27 =>
   (ld Tryz.prog 34 h17 v27).bind fun v28 =>
   (lenV Tryz.prog 34 v28).bind fun v29 =>
   (slc3 Tryz.prog 34 h17 v21 none (some v25) v29).bind fun v30 =>
   (build Tryz.prog 118 [(0, a1), (1, a2)]).bind fun v31 =>
   b2 (buildS Tryz.prog 34 h17 1 [(0, v31)]) fun v32 h32 =>
   b2 (ap Tryz.prog 34 34 h32 v30 v32) fun v33 h33 =>
   (nilChk a0).bind fun v34 =>
   (fldA Tryz.prog 36 v34 1).bind fun v35 =>
   (st Tryz.prog 34 h33 v35 v33).bind fun h36 =>
   some ((.int .i64 0), h36)))) := by kernel_rfl
abbrev f66_T_L0 (s0 s2 s4 s5 : Value) : List Value := [s0, unk, s2, unk, s4, s5] ++ List.replicate 79 unk
abbrev f66_X_L0 : List Value := List.replicate 85 unk
@[irreducible] def f66_L0 (k : Nat) (s0 s2 s4 s5 : Value) (n : Nat) (H : AH) : Option Out := iterD (fun T H K => evalK Tryz.prog (rn k) k (tbs 66) (codeAt (bodyOf Tryz.f66) [1, 1, 0, 0]) T H K) (cutT (tbs 66) 7) (cutT (tbs 66) 8) n (f66_T_L0 s0 s2 s4 s5) H
@[irreducible] def f66_A0 (k : Nat) (e : EX) (T : List Value) (H : AH) : Option (Value × AH) := resume Tryz.prog (rn k) k (tbs 66) (bodyOf Tryz.f66) [1, 1, 0] e T H (resK Tryz.prog Tryz.f66.results.toList)
theorem f66_L0_succ (k : Nat) (s0 s2 s4 s5 : Value) (n : Nat) (H : AH) : f66_L0 k s0 s2 s4 s5 (n + 1) H =
(ld Tryz.prog 29 H s2).bind fun v2 =>
b2 (rn k 67 [v2, s5] H) fun v3 h3 =>
(ext v3 0).bind fun v4 =>
(ext v3 1).bind fun v5 =>
(ext v3 2).bind fun v6 =>
(bin Tryz.prog .neq 37 v6 (.int .i64 0)).bind fun v7 =>
aIf v7
 ((build Tryz.prog 97 [(2, v6)]).bind fun v8 =>
 b2 (callY (rn k) s0 [v8] h3) fun v9 h9 =>
 some (.ret, f66_X_L0, h9))
 ((bin Tryz.prog .neq 3 v4 (.int .i64 2)).bind fun v10 =>
 b2 (gOp v10 false (some (v5, h3)) h3) fun v11 h11 =>
 b2 (gOp v10 false ((lenV Tryz.prog 9 v11).bind fun v => some (v, h11)) h11) fun v12 h12 =>
 b2 (gOp v10 false ((bin Tryz.prog .lss 3 v12 (.int .i64 2)).bind fun v => some (v, h12)) h12) fun v13 h13 =>
 (pickV v10 (.bool true) v13).bind fun v14 =>
 b2 (gOp v14 false (some (s4, h13)) h13) fun v15 h15 =>
 b2 (gOp v14 false ((lenV Tryz.prog 51 v15).bind fun v => some (v, h15)) h15) fun v16 h16 =>
 b2 (gOp v14 false ((bin Tryz.prog .geq 3 v16 (.int .i64 512)).bind fun v => some (v, h16)) h16) fun v17 h17 =>
 (pickV v14 (.bool true) v17).bind fun v18 =>
 aIf v18
  ((build Tryz.prog 97 [(2, (.int .i64 2))]).bind fun v19 =>
  b2 (callY (rn k) s0 [v19] h17) fun v20 h20 =>
  some (.ret, f66_X_L0, h20))
  (b2 (buildS Tryz.prog 51 h17 1 [(0, s5)]) fun v21 h21 =>
  b2 (ap Tryz.prog 51 51 h21 s4 v21) fun v22 h22 =>
  (ix Tryz.prog 9 v5 (.int .i64 0)).bind fun v23 =>
  (cv Tryz.prog 5 3 v23).bind fun v24 =>
  (bin Tryz.prog .shl 3 v24 (.int .u64 8)).bind fun v25 =>
  (ix Tryz.prog 9 v5 (.int .i64 1)).bind fun v26 =>
  (cv Tryz.prog 5 3 v26).bind fun v27 =>
  (bin Tryz.prog .or 3 v25 v27).bind fun v28 =>
  (bin Tryz.prog .eql 3 v28 (.int .i64 1)).bind fun v29 =>
  b2 (gOp v29 false (some (v28, h22)) h22) fun v30 h30 =>
  b2 (gOp v29 false ((ld Tryz.prog 29 h30 s2).bind fun v => some (v, h30)) h30) fun v31 h31 =>
  b2 (gOp v29 false (b2 (rn k 41 [v31] h31) fun v h => some (v, h)) h31) fun v32 h32 =>
  b2 (gOp v29 false ((bin Tryz.prog .geq 3 v30 v32).bind fun v => some (v, h32)) h32) fun v33 h33 =>
  (pickV v29 (.bool true) v33).bind fun v34 =>
  b2 (gOp v34 false (some (v28, h33)) h33) fun v35 h35 =>
  b2 (gOp v34 false ((bin Tryz.prog .neq 3 v35 (.int .i64 0)).bind fun v => some (v, h35)) h35) fun v36 h36 =>
  b2 (gOp v34 false (some (v36, h36)) h36) fun v37 h37 =>
  b2 (gOp v37 true (some (v22, h37)) h37) fun v38 h38 =>
  b2 (gOp v37 true (some (v28, h38)) h38) fun v39 h39 =>
  b2 (gOp v37 true (b2 (rn k 42 [v38, v39] h39) fun v h => some (v, h)) h39) fun v40 h40 =>
  b2 (gOp v34 false ((pickV v37 v40 (.bool false)).bind fun v => some (v, h40)) h40) fun v41 h41 =>
  (pickV v34 (.bool true) v41).bind fun v42 =>
  aIf v42
   ((build Tryz.prog 97 [(2, (.int .i64 2))]).bind fun v43 =>
   b2 (callY (rn k) s0 [v43] h41) fun v44 h44 =>
   some (.ret, f66_X_L0, h44))
   ((slc Tryz.prog 9 v5 (some (.int .i64 2)) none).bind fun v45 =>
   (build Tryz.prog 97 [(0, s5), (1, v45)]).bind fun v46 =>
   b2 (callY (rn k) s0 [v46] h41) fun v47 h47 =>
   (un Tryz.prog .not v47).bind fun v48 =>
   b2 (gOp v48 false (some (v28, h47)) h47) fun v49 h49 =>
   b2 (gOp v48 false ((bin Tryz.prog .eql 3 v49 (.int .i64 0)).bind fun v => some (v, h49)) h49) fun v50 h50 =>
   (pickV v48 (.bool true) v50).bind fun v51 =>
   aIf v51
    (some (.ret, f66_X_L0, h50))
    (f66_L0 k s0 s2 v22 v28 n h50)))) := by kernel_rfl
theorem f66_A0_ret (k : Nat) (H : AH) : f66_A0 k .ret f66_X_L0 H =
some ((.tuple #[]), H) := by kernel_rfl
theorem f66_eq (k : Nat) (a0 a1 a2 : Value) (H : AH) : rn (k + 1) 66 [a0, a1, a2] H =
(ld Tryz.prog 3 H a1).bind fun v1 =>
(f66_L0 k a0 a2 (.slice none 0 0) v1 k H).bind fun p => f66_A0 k p.1 p.2.1 p.2.2 := by kernel_rfl
theorem f67_eq (k : Nat) (a0 a1 : Value) (H : AH) : rn (k + 1) 67 [a0, a1] H =
(nilChk a0).bind fun v1 =>
(fldA Tryz.prog 85 v1 3).bind fun v2 =>
(ld Tryz.prog 4 H v2).bind fun v3 =>
aIf v3
 (some ((.tuple #[(.int .i64 0), (.string ⟨#[]⟩), (.int .i64 7)]), H))
 ((bin Tryz.prog .lss 3 a1 (.int .i64 0)).bind fun v4 =>
 b2 (gOp v4 false (some (a1, H)) H) fun v5 h5 =>
 b2 (gOp v4 false (some (a0, h5)) h5) fun v6 h6 =>
 b2 (gOp v4 false (b2 (rn k 41 [v6] h6) fun v h => some (v, h)) h6) fun v7 h7 =>
 b2 (gOp v4 false ((bin Tryz.prog .geq 3 v5 v7).bind fun v => some (v, h7)) h7) fun v8 h8 =>
 (pickV v4 (.bool true) v8).bind fun v9 =>
 aIf v9
  (some ((.tuple #[(.int .i64 0), (.string ⟨#[]⟩), (.int .i64 1)]), h8))
  ((nilChk a0).bind fun v10 =>
  (fldA Tryz.prog 85 v10 1).bind fun v11 =>
  (ld Tryz.prog 27 h8 v11).bind fun v12 =>
  b2 (rn k 82 [v12, a1] h8) fun v13 h13 =>
  (ext v13 0).bind fun v14 =>
  (ext v13 1).bind fun v15 =>
  (ext v13 2).bind fun v16 =>
  b2 (rn k 44 [a0, v16] h13) fun v17 h17 =>
  some ((.tuple #[v14, v15, v17]), h17))) := by kernel_rfl
theorem f69_eq (k : Nat) (a0 a1 : Value) (H : AH) : rn (k + 1) 69 [a0, a1] H =
(nilChk a0).bind fun v1 =>
(fldA Tryz.prog 76 v1 5).bind fun v2 =>
(ld Tryz.prog 4 H v2).bind fun v3 =>
aIf v3
 (some ((.tuple #[(.int .i64 0), (.string ⟨#[]⟩), (.int .i64 7)]), H))
 ((bin Tryz.prog .lss 3 a1 (.int .i64 0)).bind fun v4 =>
 b2 (gOp v4 false (some (a1, H)) H) fun v5 h5 =>
 b2 (gOp v4 false (some (a0, h5)) h5) fun v6 h6 =>
 b2 (gOp v4 false ((nilChk v6).bind fun v => some (v, h6)) h6) fun v7 h7 =>
 b2 (gOp v4 false ((fldA Tryz.prog 76 v7 3).bind fun v => some (v, h7)) h7) fun v8 h8 =>
 b2 (gOp v4 false ((ld Tryz.prog 74 h8 v8).bind fun v => some (v, h8)) h8) fun v9 h9 =>
 b2 (gOp v4 false ((lenV Tryz.prog 74 v9).bind fun v => some (v, h9)) h9) fun v10 h10 =>
 b2 (gOp v4 false ((bin Tryz.prog .geq 3 v5 v10).bind fun v => some (v, h10)) h10) fun v11 h11 =>
 (pickV v4 (.bool true) v11).bind fun v12 =>
 aIf v12
  (some ((.tuple #[(.int .i64 0), (.string ⟨#[]⟩), (.int .i64 1)]), h11))
  ((nilChk a0).bind fun v13 =>
  (fldA Tryz.prog 76 v13 0).bind fun v14 =>
  (ld Tryz.prog 28 h11 v14).bind fun v15 =>
  b2 (rn k 84 [v15, a1] h11) fun v16 h16 =>
  (ext v16 0).bind fun v17 =>
  (ext v16 1).bind fun v18 =>
  (ext v16 2).bind fun v19 =>
  b2 (rn k 46 [a0, v19] h16) fun v20 h20 =>
  some ((.tuple #[v17, v18, v20]), h20))) := by kernel_rfl
abbrev f70_T_L0 (s0 s1 s5 : Value) : List Value := [s0, s1, unk, unk, unk, s5] ++ List.replicate 12 unk
abbrev f70_X_L0 (s4 : Value) : List Value := [unk, unk, unk, unk, s4] ++ List.replicate 13 unk
@[irreducible] def f70_L0 (k : Nat) (s0 s1 s5 : Value) (n : Nat) (H : AH) : Option Out := iterD (fun T H K => evalK Tryz.prog (rn k) k (tbs 70) (codeAt (bodyOf Tryz.f70) [1, 0, 1, 0, 0]) T H K) (cutT (tbs 70) 7) (cutT (tbs 70) 8) n (f70_T_L0 s0 s1 s5) H
@[irreducible] def f70_A0 (k : Nat) (e : EX) (T : List Value) (H : AH) : Option (Value × AH) := resume Tryz.prog (rn k) k (tbs 70) (bodyOf Tryz.f70) [1, 0, 1, 0] e T H (resK Tryz.prog Tryz.f70.results.toList)
theorem f70_L0_succ (k : Nat) (s0 s1 s5 : Value) (n : Nat) (H : AH) : f70_L0 k s0 s1 s5 (n + 1) H =
(lenV Tryz.prog 51 s0).bind fun v1 =>
(bin Tryz.prog .lss 3 s5 v1).bind fun v2 =>
aIf v2
 ((ixA Tryz.prog 51 s0 s5).bind fun v3 =>
 (ld Tryz.prog 3 H v3).bind fun v4 =>
 (bin Tryz.prog .eql 3 v4 s1).bind fun v5 =>
 aIf v5
  (some (.ret, (f70_X_L0 (.bool true)), H))
  ((bin Tryz.prog .add 3 s5 (.int .i64 1)).bind fun v6 =>
  f70_L0 k s0 s1 v6 n H))
 (some ((.exit 0), (f70_X_L0 unk), H)) := by kernel_rfl
theorem f70_A0_x0 (k : Nat) (s4 : Value) (H : AH) : f70_A0 k (.exit 0) (f70_X_L0 s4) H =
some ((.bool false), H) := by kernel_rfl
theorem f70_A0_ret (k : Nat) (s4 : Value) (H : AH) : f70_A0 k .ret (f70_X_L0 s4) H =
some (s4, H) := by kernel_rfl
theorem f70_eq (k : Nat) (a0 a1 : Value) (H : AH) : rn (k + 1) 70 [a0, a1] H =
(f70_L0 k a0 a1 (.int .i64 0) k H).bind fun p => f70_A0 k p.1 p.2.1 p.2.2 := by kernel_rfl
abbrev f71_T_L0 (s1 s3 s7 : Value) : List Value := [unk, s1, unk, s3, unk, unk, unk, s7] ++ List.replicate 44 unk
abbrev f71_X_L0 (s1 s3 : Value) : List Value := [unk, s1, unk, s3] ++ List.replicate 48 unk
@[irreducible] def f71_L0 (k : Nat) (s1 s3 s7 : Value) (n : Nat) (H : AH) : Option Out := iterD (fun T H K => evalK Tryz.prog (rn k) k (tbs 71) (codeAt (bodyOf Tryz.f71) [1, 1, 0, 1, 0, 0]) T H K) (cutT (tbs 71) 10) (cutT (tbs 71) 11) n (f71_T_L0 s1 s3 s7) H
@[irreducible] def f71_A0 (k : Nat) (e : EX) (T : List Value) (H : AH) : Option (Value × AH) := resumeP Tryz.prog (rn k) k (tbs 71) mText (bodyOf Tryz.f71) [1, 1, 0, 1, 0] [1, 1, 1, 1, 0] e T H (resK Tryz.prog Tryz.f71.results.toList)
theorem f71_L0_succ (k : Nat) (s1 s3 s7 : Value) (n : Nat) (H : AH) : f71_L0 k s1 s3 s7 (n + 1) H =
(bin Tryz.prog .lss 3 s7 (.int .i64 6)).bind fun v3 =>
aIf v3
 ((fldA Tryz.prog 83 s1 0).bind fun v4 =>
 (ld Tryz.prog 3 H v4).bind fun v5 =>
 (bin Tryz.prog .sub 3 (.int .i64 5) s7).bind fun v6 =>
 (bin Tryz.prog .mul 3 (.int .i64 8) v6).bind fun v7 =>
 (bin Tryz.prog .shr 3 v5 v7).bind fun v8 =>
 (cv Tryz.prog 3 5 v8).bind fun v9 =>
 (ixA Tryz.prog 63 s3 s7).bind fun v10 =>
 (st Tryz.prog 5 H v10 v9).bind fun h11 =>
 (bin Tryz.prog .add 3 s7 (.int .i64 1)).bind fun v12 =>
 f71_L0 k s1 s3 v12 n h11)
 (some ((.exit 0), (f71_X_L0 s1 s3), H)) := by kernel_rfl
theorem f71_A0_x0 (k : Nat) (s1 s3 : Value) (H : AH) : f71_A0 k (.exit 0) (f71_X_L0 s1 s3) H =
(fldA Tryz.prog 83 s1 1).bind fun v13 =>
(ld Tryz.prog 3 H v13).bind fun v14 =>
(bin Tryz.prog .shr 3 v14 (.int .u64 8)).bind fun v15 =>
(cv Tryz.prog 3 5 v15).bind fun v16 =>
(fldA Tryz.prog 83 s1 1).bind fun v17 =>
(ld Tryz.prog 3 H v17).bind fun v18 =>
(cv Tryz.prog 3 5 v18).bind fun v19 =>
(ixA Tryz.prog 63 s3 (.int .i64 6)).bind fun v20 =>
(st Tryz.prog 5 H v20 v16).bind fun h21 =>
aChk (ld Tryz.prog 3 h21 v17 = some v18) <|
(ixA Tryz.prog 63 s3 (.int .i64 7)).bind fun v22 =>
(st Tryz.prog 5 h21 v22 v19).bind fun h23 =>
(gText [s1, s3] h23).bind fun h24 =>
(cvS Tryz.prog 63 9 h24 s3).bind fun v25 =>
some (v25, h24) := by kernel_rfl
theorem f71_eq (k : Nat) (a0 : Value) (H : AH) : rn (k + 1) 71 [a0] H =
b2 (box 83 H a0) fun v1 h1 =>
b2 (mkS Tryz.prog 63 h1 (.int .i64 72) (.int .i64 72)) fun v2 h2 =>
(f71_L0 k v1 v2 (.int .i64 0) k h2).bind fun p => f71_A0 k p.1 p.2.1 p.2.2 := by kernel_rfl
theorem f72_eq (k : Nat) (a0 a1 : Value) (H : AH) : rn (k + 1) 72 [a0, a1] H =
(nilChk a0).bind fun v1 =>
(fldA Tryz.prog 71 v1 2).bind fun v2 =>
(ld Tryz.prog 3 H v2).bind fun v3 =>
(bin Tryz.prog .eql 3 v3 (.int .i64 0)).bind fun v4 =>
aIf v4
 ((nilChk a0).bind fun v5 =>
 (fldA Tryz.prog 71 v5 3).bind fun v6 =>
 (st Tryz.prog 4 H v6 (.bool true)).bind fun h7 =>
 some ((.int .i64 7), h7))
 ((nilChk a0).bind fun v8 =>
 (fldA Tryz.prog 71 v8 2).bind fun v9 =>
 (ld Tryz.prog 3 H v9).bind fun v10 =>
 (bin Tryz.prog .sub 3 v10 (.int .i64 1)).bind fun v11 =>
 (fold1 maxV [v11, (.int .i64 (-1))]).bind fun v12 =>
 (nilChk a0).bind fun v13 =>
 (fldA Tryz.prog 71 v13 2).bind fun v14 =>
 (st Tryz.prog 3 H v14 v12).bind fun h15 =>
 b2 (callY (rn k) a1 [] h15) fun v16 h16 =>
 some ((.int .i64 0), h16)) := by kernel_rfl
abbrev f73_T_L0 (s0 s6 s7 s8 : Value) : List Value := [s0, unk, unk, unk, unk, unk, s6, s7, s8] ++ List.replicate 13 unk
abbrev f73_X_L0 (s0 : Value) : List Value := [s0] ++ List.replicate 21 unk
@[irreducible] def f73_L0 (k : Nat) (s0 s6 s7 s8 : Value) (n : Nat) (H : AH) : Option Out := iterD (fun T H K => evalK Tryz.prog (rn k) k (tbs 73) (codeAt (bodyOf Tryz.f73) [0, 1, 0, 0]) T H K) (cutT (tbs 73) 4) (cutT (tbs 73) 5) n (f73_T_L0 s0 s6 s7 s8) H
@[irreducible] def f73_A0 (k : Nat) (e : EX) (T : List Value) (H : AH) : Option (Value × AH) := resume Tryz.prog (rn k) k (tbs 73) (bodyOf Tryz.f73) [0, 1, 0] e T H (resK Tryz.prog Tryz.f73.results.toList)
theorem f73_L0_succ (k : Nat) (s0 s6 s7 s8 : Value) (n : Nat) (H : AH) : f73_L0 k s0 s6 s7 s8 (n + 1) H =
(bin Tryz.prog .lss 3 s8 s7).bind fun v6 =>
aIf v6
 ((ixA Tryz.prog 69 s6 s8).bind fun v7 =>
 (ld Tryz.prog 116 H v7).bind fun v8 =>
 b2 (newV Tryz.prog 116 H) fun v9 h9 =>
 (st Tryz.prog 116 h9 v9 v8).bind fun h10 =>
 (ld Tryz.prog 27 h10 s0).bind fun v11 =>
 (fldA Tryz.prog 116 v9 0).bind fun v12 =>
 (ld Tryz.prog 3 h10 v12).bind fun v13 =>
 (fldA Tryz.prog 116 v9 1).bind fun v14 =>
 (ld Tryz.prog 9 h10 v14).bind fun v15 =>
 b2 (rn k 74 [v11, v13, v15] h10) fun v16 h16 =>
 (bin Tryz.prog .add 3 s8 (.int .i64 1)).bind fun v17 =>
 f73_L0 k s0 s6 s7 v17 n h16)
 (some ((.exit 0), (f73_X_L0 s0), H)) := by kernel_rfl
theorem f73_A0_x0 (k : Nat) (s0 : Value) (H : AH) : f73_A0 k (.exit 0) (f73_X_L0 s0) H =
(ld Tryz.prog 27 H s0).bind fun v18 =>
(nilChk v18).bind fun v19 =>
(fldA Tryz.prog 71 v19 1).bind fun v20 =>
(st Tryz.prog 69 H v20 (.slice none 0 0)).bind fun h21 =>
some ((.tuple #[]), h21) := by kernel_rfl
theorem f73_eq (k : Nat) (a0 : Value) (H : AH) : rn (k + 1) 73 [a0] H =
(ld Tryz.prog 27 H a0).bind fun v1 =>
(nilChk v1).bind fun v2 =>
(fldA Tryz.prog 71 v2 1).bind fun v3 =>
(ld Tryz.prog 69 H v3).bind fun v4 =>
(lenV Tryz.prog 69 v4).bind fun v5 =>
(f73_L0 k a0 v4 v5 (.int .i64 0) k H).bind fun p => f73_A0 k p.1 p.2.1 p.2.2 := by kernel_rfl
theorem f74_eq (k : Nat) (a0 a1 a2 : Value) (H : AH) : rn (k + 1) 74 [a0, a1, a2] H =
(nilChk a0).bind fun v1 =>
(fldA Tryz.prog 71 v1 0).bind fun v2 =>
(ld Tryz.prog 63 H v2).bind fun v3 =>
(bin Tryz.prog .mul 3 a1 (.int .i64 64)).bind fun v4 =>
(slc Tryz.prog 63 v3 (some v4) none).bind fun v5 =>
b2 (cpy Tryz.prog 63 H v5 a2) fun v6 h6 =>
some ((.tuple #[]), h6) := by kernel_rfl
theorem f75_eq (k : Nat) (a0 : Value) (H : AH) : rn (k + 1) 75 [a0] H =
(nilChk a0).bind fun v1 =>
(fldA Tryz.prog 36 v1 2).bind fun v2 =>
(ld Tryz.prog 3 H v2).bind fun v3 =>
(bin Tryz.prog .eql 3 v3 (.int .i64 0)).bind fun v4 =>
aIf v4
 ((nilChk a0).bind fun v5 =>
 (fldA Tryz.prog 36 v5 3).bind fun v6 =>
 (st Tryz.prog 4 H v6 (.bool true)).bind fun h7 =>
 some ((.bool false), h7))
 ((nilChk a0).bind fun v8 =>
 (fldA Tryz.prog 36 v8 2).bind fun v9 =>
 (ld Tryz.prog 3 H v9).bind fun v10 =>
 (bin Tryz.prog .gtr 3 v10 (.int .i64 0)).bind fun v11 =>
 aIf v11
  ((nilChk a0).bind fun v12 =>
  (fldA Tryz.prog 36 v12 2).bind fun v13 =>
  (ld Tryz.prog 3 H v13).bind fun v14 =>
  (bin Tryz.prog .sub 3 v14 (.int .i64 1)).bind fun v15 =>
  (nilChk a0).bind fun v16 =>
  (fldA Tryz.prog 36 v16 2).bind fun v17 =>
  (st Tryz.prog 3 H v17 v15).bind fun h18 =>
  some ((.bool true), h18))
  (some ((.bool true), H))) := by kernel_rfl
abbrev f76_T_L0 (s0 s1 s3 : Value) : List Value := [s0, s1, unk, s3] ++ List.replicate 15 unk
abbrev f76_X_L0 : List Value := List.replicate 19 unk
@[irreducible] def f76_L0 (k : Nat) (s0 s1 s3 : Value) (n : Nat) (H : AH) : Option Out := iterD (fun T H K => evalK Tryz.prog (rn k) k (tbs 76) (codeAt (bodyOf Tryz.f76) [1, 0, 0]) T H K) (cutT (tbs 76) 4) (cutT (tbs 76) 5) n (f76_T_L0 s0 s1 s3) H
@[irreducible] def f76_A0 (k : Nat) (e : EX) (T : List Value) (H : AH) : Option (Value × AH) := resume Tryz.prog (rn k) k (tbs 76) (bodyOf Tryz.f76) [1, 0] e T H (resK Tryz.prog Tryz.f76.results.toList)
theorem f76_L0_succ (k : Nat) (s0 s1 s3 : Value) (n : Nat) (H : AH) : f76_L0 k s0 s1 s3 (n + 1) H =
(bin Tryz.prog .geq 3 s3 (.int .i64 0)).bind fun v4 =>
aIf v4
 ((ld Tryz.prog 69 H s1).bind fun v5 =>
 (ixA Tryz.prog 69 v5 s3).bind fun v6 =>
 (ld Tryz.prog 116 H v6).bind fun v7 =>
 b2 (callY (rn k) s0 [s3, v7] H) fun v8 h8 =>
 (un Tryz.prog .not v8).bind fun v9 =>
 aIf v9
  (some (.ret, f76_X_L0, h8))
  ((bin Tryz.prog .sub 3 s3 (.int .i64 1)).bind fun v10 =>
  f76_L0 k s0 s1 v10 n h8))
 (some ((.exit 0), f76_X_L0, H)) := by kernel_rfl
theorem f76_A0_x0 (k : Nat) (H : AH) : f76_A0 k (.exit 0) f76_X_L0 H =
some ((.tuple #[]), H) := by kernel_rfl
theorem f76_A0_ret (k : Nat) (H : AH) : f76_A0 k .ret f76_X_L0 H =
some ((.tuple #[]), H) := by kernel_rfl
theorem f76_eq (k : Nat) (a0 a1 : Value) (H : AH) : rn (k + 1) 76 [a0, a1] H =
(ld Tryz.prog 69 H a1).bind fun v1 =>
(lenV Tryz.prog 69 v1).bind fun v2 =>
(bin Tryz.prog .sub 3 v2 (.int .i64 1)).bind fun v3 =>
(f76_L0 k a0 a1 v3 k H).bind fun p => f76_A0 k p.1 p.2.1 p.2.2 := by kernel_rfl
abbrev f77_T_L0 (s3 s6 s7 s8 : Value) : List Value := [unk, unk, unk, s3, unk, unk, s6, s7, s8] ++ List.replicate 8 unk
abbrev f77_X_L0 (s3 : Value) : List Value := [unk, unk, unk, s3] ++ List.replicate 13 unk
@[irreducible] def f77_L0 (k : Nat) (s3 s6 s7 s8 : Value) (n : Nat) (H : AH) : Option Out := iterD (fun T H K => evalK Tryz.prog (rn k) k (tbs 77) (codeAt (bodyOf Tryz.f77) [1, 1, 0, 1, 0, 0]) T H K) (cutT (tbs 77) 10) (cutT (tbs 77) 11) n (f77_T_L0 s3 s6 s7 s8) H
@[irreducible] def f77_A0 (k : Nat) (e : EX) (T : List Value) (H : AH) : Option (Value × AH) := resume Tryz.prog (rn k) k (tbs 77) (bodyOf Tryz.f77) [1, 1, 0, 1, 0] e T H (resK Tryz.prog Tryz.f77.results.toList)
theorem f77_L0_succ (k : Nat) (s3 s6 s7 s8 : Value) (n : Nat) (H : AH) : f77_L0 k s3 s6 s7 s8 (n + 1) H =
(bin Tryz.prog .lss 3 s8 s7).bind fun v3 =>
aIf v3
 ((ixA Tryz.prog 143 s6 s8).bind fun v4 =>
 (ld Tryz.prog 135 H v4).bind fun v5 =>
 (cv Tryz.prog 135 5 v5).bind fun v6 =>
 b2 (rn k 85 [s3, v6] H) fun v7 h7 =>
 (bin Tryz.prog .add 3 s8 (.int .i64 1)).bind fun v8 =>
 f77_L0 k s3 s6 s7 v8 n h7)
 (some ((.exit 0), (f77_X_L0 s3), H)) := by kernel_rfl
theorem f77_A0_x0 (k : Nat) (s3 : Value) (H : AH) : f77_A0 k (.exit 0) (f77_X_L0 s3) H =
b2 (rn k 50 [s3] H) fun v9 h9 =>
some (v9, h9) := by kernel_rfl
theorem f77_eq (k : Nat) (a0 : Value) (H : AH) : rn (k + 1) 77 [a0] H =
b2 (newV Tryz.prog 92 H) fun v1 h1 =>
(lenV Tryz.prog 143 a0).bind fun v2 =>
(f77_L0 k v1 a0 v2 (.int .i64 0) k h1).bind fun p => f77_A0 k p.1 p.2.1 p.2.2 := by kernel_rfl
abbrev f78_T_J0 (s0 s1 : Value) : List Value := [s0, s1] ++ List.replicate 123 unk
abbrev f78_T_J1 (s0 s6 : Value) : List Value := [s0, unk, unk, unk, unk, unk, s6] ++ List.replicate 118 unk
abbrev f78_T_J2 (s0 s7 : Value) : List Value := [s0, unk, unk, unk, unk, unk, unk, s7] ++ List.replicate 117 unk
abbrev f78_T_J3 (s0 s7 s8 : Value) : List Value := [s0, unk, unk, unk, unk, unk, unk, s7, s8] ++ List.replicate 116 unk
abbrev f78_T_L0 (s7 s8 s9 : Value) : List Value := [unk, unk, unk, unk, unk, unk, unk, s7, s8, s9] ++ List.replicate 115 unk
abbrev f78_X_L0 (s9 : Value) : List Value := List.replicate 9 unk ++ [s9] ++ List.replicate 115 unk
@[irreducible] def f78_J0 (k : Nat) (s0 s1 : Value) (H : AH) : Option (Value × AH) := resume Tryz.prog (rn k) k (tbs 78) (bodyOf Tryz.f78) [1, 1, 0] .normal (f78_T_J0 s0 s1) H (resK Tryz.prog Tryz.f78.results.toList)
@[irreducible] def f78_J1 (k : Nat) (s0 s6 : Value) (H : AH) : Option (Value × AH) := resume Tryz.prog (rn k) k (tbs 78) (bodyOf Tryz.f78) [1, 1, 1, 1, 0] .normal (f78_T_J1 s0 s6) H (resK Tryz.prog Tryz.f78.results.toList)
@[irreducible] def f78_J2 (k : Nat) (s0 s7 : Value) (H : AH) : Option (Value × AH) := resume Tryz.prog (rn k) k (tbs 78) (bodyOf Tryz.f78) [1, 1, 1, 1, 1, 1, 1, 0] .normal (f78_T_J2 s0 s7) H (resK Tryz.prog Tryz.f78.results.toList)
@[irreducible] def f78_J3 (k : Nat) (s0 s7 s8 : Value) (H : AH) : Option (Value × AH) := resume Tryz.prog (rn k) k (tbs 78) (bodyOf Tryz.f78) [1, 1, 1, 1, 1, 1, 1, 1, 1, 0] .normal (f78_T_J3 s0 s7 s8) H (resK Tryz.prog Tryz.f78.results.toList)
@[irreducible] def f78_L0 (k : Nat) (s7 s8 s9 : Value) (n : Nat) (H : AH) : Option Out := iterD (fun T H K => evalK Tryz.prog (rn k) k (tbs 78) (codeAt (bodyOf Tryz.f78) [1, 1, 1, 1, 1, 1, 1, 1, 1, 1, 1, 1, 1, 0, 0, 0]) T H K) (cutT (tbs 78) 115) (cutT (tbs 78) 116) n (f78_T_L0 s7 s8 s9) H
@[irreducible] def f78_A0 (k : Nat) (e : EX) (T : List Value) (H : AH) : Option (Value × AH) := resume Tryz.prog (rn k) k (tbs 78) (bodyOf Tryz.f78) [1, 1, 1, 1, 1, 1, 1, 1, 1, 1, 1, 1, 1, 0, 0] e T H (resK Tryz.prog Tryz.f78.results.toList)
theorem f78_J0_eq (k : Nat) (s0 s1 : Value) (H : AH) : f78_J0 k s0 s1 H =
(lenV Tryz.prog 9 s0).bind fun v4 =>
(cv Tryz.prog 3 77 v4).bind fun v5 =>
(cv Tryz.prog 3 77 s1).bind fun v6 =>
b2 (rn k 86 [v5, v6] H) fun v7 h7 =>
(ext v7 0).bind fun v8 =>
(ext v7 1).bind fun v9 =>
(bin Tryz.prog .gtr 77 v8 (.int .u64 0)).bind fun v10 =>
b2 (gOp v10 false (some (v9, h7)) h7) fun v11 h11 =>
b2 (gOp v10 false ((bin Tryz.prog .gtr 77 v11 (.int .u64 9223372036854775807)).bind fun v => some (v, h11)) h11) fun v12 h12 =>
(pickV v10 (.bool true) v12).bind fun v13 =>
aIf v13
 (none)
 (f78_J1 k s0 v9 h12) := by kernel_rfl
theorem f78_J1_eq (k : Nat) (s0 s6 : Value) (H : AH) : f78_J1 k s0 s6 H =
(cv Tryz.prog 77 3 s6).bind fun v14 =>
(lenV Tryz.prog 9 s0).bind fun v15 =>
(bin Tryz.prog .eql 3 v15 (.int .i64 0)).bind fun v16 =>
aIf v16
 (some ((.string ⟨#[]⟩), H))
 ((ix Tryz.prog 9 s0 (.int .i64 0)).bind fun v17 =>
 (bin Tryz.prog .eql 5 v17 (.int .u8 32)).bind fun v18 =>
 aIf v18
  (aIf v18
   ((bin Tryz.prog .leq 3 v14 (.int .i64 128)).bind fun v19 =>
   b2 (gOp v19 true (some (s0, H)) H) fun v20 h20 =>
   b2 (gOp v19 true (b2 (rn k 87 [(.string long0), v20] h20) fun v h => some (v, h)) h20) fun v21 h21 =>
   (pickV v19 v21 (.bool false)).bind fun v22 =>
   aIf v22
    ((slc Tryz.prog 9 (.string long0) none (some v14)).bind fun v23 =>
    some (v23, h21))
    ((bin Tryz.prog .leq 3 v14 (.int .i64 128)).bind fun v24 =>
    b2 (gOp v24 true (some (s0, h21)) h21) fun v25 h25 =>
    b2 (gOp v24 true (b2 (rn k 87 [(.string long1), v25] h25) fun v h => some (v, h)) h25) fun v26 h26 =>
    (pickV v24 v26 (.bool false)).bind fun v27 =>
    aIf v27
     ((slc Tryz.prog 9 (.string long1) none (some v14)).bind fun v28 =>
     some (v28, h26))
     ((bin Tryz.prog .leq 3 v14 (.int .i64 64)).bind fun v29 =>
     b2 (gOp v29 true (some (s0, h26)) h26) fun v30 h30 =>
     b2 (gOp v29 true (b2 (rn k 87 [(.string long2), v30] h30) fun v h => some (v, h)) h30) fun v31 h31 =>
     (pickV v29 v31 (.bool false)).bind fun v32 =>
     aIf v32
      ((slc Tryz.prog 9 (.string long2) none (some v14)).bind fun v33 =>
      some (v33, h31))
      ((bin Tryz.prog .leq 3 v14 (.int .i64 128)).bind fun v34 =>
      b2 (gOp v34 true (some (s0, h31)) h31) fun v35 h35 =>
      b2 (gOp v34 true (b2 (rn k 87 [(.string long3), v35] h35) fun v h => some (v, h)) h35) fun v36 h36 =>
      (pickV v34 v36 (.bool false)).bind fun v37 =>
      aIf v37
       ((slc Tryz.prog 9 (.string long3) none (some v14)).bind fun v38 =>
       some (v38, h36))
       ((bin Tryz.prog .leq 3 v14 (.int .i64 64)).bind fun v39 =>
       b2 (gOp v39 true (some (s0, h36)) h36) fun v40 h40 =>
       b2 (gOp v39 true (b2 (rn k 87 [(.string ⟨#[9, 9, 9, 9, 9, 9, 9, 9, 9, 9, 9, 9, 9, 9, 9, 9, 9, 9, 9, 9, 9, 9, 9, 9, 9, 9, 9, 9, 9, 9, 9, 9, 9, 9, 9, 9, 9, 9, 9, 9, 9, 9, 9, 9, 9, 9, 9, 9, 9, 9, 9, 9, 9, 9, 9, 9, 9, 9, 9, 9, 9, 9, 9, 9]⟩), v40] h40) fun v h => some (v, h)) h40) fun v41 h41 =>
       (pickV v39 v41 (.bool false)).bind fun v42 =>
       aIf v42
        ((slc Tryz.prog 9 (.string ⟨#[9, 9, 9, 9, 9, 9, 9, 9, 9, 9, 9, 9, 9, 9, 9, 9, 9, 9, 9, 9, 9, 9, 9, 9, 9, 9, 9, 9, 9, 9, 9, 9, 9, 9, 9, 9, 9, 9, 9, 9, 9, 9, 9, 9, 9, 9, 9, 9, 9, 9, 9, 9, 9, 9, 9, 9, 9, 9, 9, 9, 9, 9, 9, 9]⟩) none (some v14)).bind fun v43 =>
        some (v43, h41))
        (f78_J2 k s0 v14 h41))))))
   (f78_J2 k s0 v14 H))
  ((bin Tryz.prog .eql 5 v17 (.int .u8 45)).bind fun v44 =>
  aIf v44
   (aIf v44
    ((bin Tryz.prog .leq 3 v14 (.int .i64 128)).bind fun v45 =>
    b2 (gOp v45 true (some (s0, H)) H) fun v46 h46 =>
    b2 (gOp v45 true (b2 (rn k 87 [(.string long0), v46] h46) fun v h => some (v, h)) h46) fun v47 h47 =>
    (pickV v45 v47 (.bool false)).bind fun v48 =>
    aIf v48
     ((slc Tryz.prog 9 (.string long0) none (some v14)).bind fun v49 =>
     some (v49, h47))
     ((bin Tryz.prog .leq 3 v14 (.int .i64 128)).bind fun v50 =>
     b2 (gOp v50 true (some (s0, h47)) h47) fun v51 h51 =>
     b2 (gOp v50 true (b2 (rn k 87 [(.string long1), v51] h51) fun v h => some (v, h)) h51) fun v52 h52 =>
     (pickV v50 v52 (.bool false)).bind fun v53 =>
     aIf v53
      ((slc Tryz.prog 9 (.string long1) none (some v14)).bind fun v54 =>
      some (v54, h52))
      ((bin Tryz.prog .leq 3 v14 (.int .i64 64)).bind fun v55 =>
      b2 (gOp v55 true (some (s0, h52)) h52) fun v56 h56 =>
      b2 (gOp v55 true (b2 (rn k 87 [(.string long2), v56] h56) fun v h => some (v, h)) h56) fun v57 h57 =>
      (pickV v55 v57 (.bool false)).bind fun v58 =>
      aIf v58
       ((slc Tryz.prog 9 (.string long2) none (some v14)).bind fun v59 =>
       some (v59, h57))
       ((bin Tryz.prog .leq 3 v14 (.int .i64 128)).bind fun v60 =>
       b2 (gOp v60 true (some (s0, h57)) h57) fun v61 h61 =>
       b2 (gOp v60 true (b2 (rn k 87 [(.string long3), v61] h61) fun v h => some (v, h)) h61) fun v62 h62 =>
       (pickV v60 v62 (.bool false)).bind fun v63 =>
       aIf v63
        ((slc Tryz.prog 9 (.string long3) none (some v14)).bind fun v64 =>
        some (v64, h62))
        ((bin Tryz.prog .leq 3 v14 (.int .i64 64)).bind fun v65 =>
        b2 (gOp v65 true (some (s0, h62)) h62) fun v66 h66 =>
        b2 (gOp v65 true (b2 (rn k 87 [(.string ⟨#[9, 9, 9, 9, 9, 9, 9, 9, 9, 9, 9, 9, 9, 9, 9, 9, 9, 9, 9, 9, 9, 9, 9, 9, 9, 9, 9, 9, 9, 9, 9, 9, 9, 9, 9, 9, 9, 9, 9, 9, 9, 9, 9, 9, 9, 9, 9, 9, 9, 9, 9, 9, 9, 9, 9, 9, 9, 9, 9, 9, 9, 9, 9, 9]⟩), v66] h66) fun v h => some (v, h)) h66) fun v67 h67 =>
        (pickV v65 v67 (.bool false)).bind fun v68 =>
        aIf v68
         ((slc Tryz.prog 9 (.string ⟨#[9, 9, 9, 9, 9, 9, 9, 9, 9, 9, 9, 9, 9, 9, 9, 9, 9, 9, 9, 9, 9, 9, 9, 9, 9, 9, 9, 9, 9, 9, 9, 9, 9, 9, 9, 9, 9, 9, 9, 9, 9, 9, 9, 9, 9, 9, 9, 9, 9, 9, 9, 9, 9, 9, 9, 9, 9, 9, 9, 9, 9, 9, 9, 9]⟩) none (some v14)).bind fun v69 =>
         some (v69, h67))
         (f78_J2 k s0 v14 h67))))))
    (f78_J2 k s0 v14 H))
   ((bin Tryz.prog .eql 5 v17 (.int .u8 48)).bind fun v70 =>
   aIf v70
    (aIf v70
     ((bin Tryz.prog .leq 3 v14 (.int .i64 128)).bind fun v71 =>
     b2 (gOp v71 true (some (s0, H)) H) fun v72 h72 =>
     b2 (gOp v71 true (b2 (rn k 87 [(.string long0), v72] h72) fun v h => some (v, h)) h72) fun v73 h73 =>
     (pickV v71 v73 (.bool false)).bind fun v74 =>
     aIf v74
      ((slc Tryz.prog 9 (.string long0) none (some v14)).bind fun v75 =>
      some (v75, h73))
      ((bin Tryz.prog .leq 3 v14 (.int .i64 128)).bind fun v76 =>
      b2 (gOp v76 true (some (s0, h73)) h73) fun v77 h77 =>
      b2 (gOp v76 true (b2 (rn k 87 [(.string long1), v77] h77) fun v h => some (v, h)) h77) fun v78 h78 =>
      (pickV v76 v78 (.bool false)).bind fun v79 =>
      aIf v79
       ((slc Tryz.prog 9 (.string long1) none (some v14)).bind fun v80 =>
       some (v80, h78))
       ((bin Tryz.prog .leq 3 v14 (.int .i64 64)).bind fun v81 =>
       b2 (gOp v81 true (some (s0, h78)) h78) fun v82 h82 =>
       b2 (gOp v81 true (b2 (rn k 87 [(.string long2), v82] h82) fun v h => some (v, h)) h82) fun v83 h83 =>
       (pickV v81 v83 (.bool false)).bind fun v84 =>
       aIf v84
        ((slc Tryz.prog 9 (.string long2) none (some v14)).bind fun v85 =>
        some (v85, h83))
        ((bin Tryz.prog .leq 3 v14 (.int .i64 128)).bind fun v86 =>
        b2 (gOp v86 true (some (s0, h83)) h83) fun v87 h87 =>
        b2 (gOp v86 true (b2 (rn k 87 [(.string long3), v87] h87) fun v h => some (v, h)) h87) fun v88 h88 =>
        (pickV v86 v88 (.bool false)).bind fun v89 =>
        aIf v89
         ((slc Tryz.prog 9 (.string long3) none (some v14)).bind fun v90 =>
         some (v90, h88))
         ((bin Tryz.prog .leq 3 v14 (.int .i64 64)).bind fun v91 =>
         b2 (gOp v91 true (some (s0, h88)) h88) fun v92 h92 =>
         b2 (gOp v91 true (b2 (rn k 87 [(.string ⟨#[9, 9, 9, 9, 9, 9, 9, 9, 9, 9, 9, 9, 9, 9, 9, 9, 9, 9, 9, 9, 9, 9, 9, 9, 9, 9, 9, 9, 9, 9, 9, 9, 9, 9, 9, 9, 9, 9, 9, 9, 9, 9, 9, 9, 9, 9, 9, 9, 9, 9, 9, 9, 9, 9, 9, 9, 9, 9, 9, 9, 9, 9, 9, 9]⟩), v92] h92) fun v h => some (v, h)) h92) fun v93 h93 =>
         (pickV v91 v93 (.bool false)).bind fun v94 =>
         aIf v94
          ((slc Tryz.prog 9 (.string ⟨#[9, 9, 9, 9, 9, 9, 9, 9, 9, 9, 9, 9, 9, 9, 9, 9, 9, 9, 9, 9, 9, 9, 9, 9, 9, 9, 9, 9, 9, 9, 9, 9, 9, 9, 9, 9, 9, 9, 9, 9, 9, 9, 9, 9, 9, 9, 9, 9, 9, 9, 9, 9, 9, 9, 9, 9, 9, 9, 9, 9, 9, 9, 9, 9]⟩) none (some v14)).bind fun v95 =>
          some (v95, h93))
          (f78_J2 k s0 v14 h93))))))
     (f78_J2 k s0 v14 H))
    ((bin Tryz.prog .eql 5 v17 (.int .u8 61)).bind fun v96 =>
    aIf v96
     (aIf v96
      ((bin Tryz.prog .leq 3 v14 (.int .i64 128)).bind fun v97 =>
      b2 (gOp v97 true (some (s0, H)) H) fun v98 h98 =>
      b2 (gOp v97 true (b2 (rn k 87 [(.string long0), v98] h98) fun v h => some (v, h)) h98) fun v99 h99 =>
      (pickV v97 v99 (.bool false)).bind fun v100 =>
      aIf v100
       ((slc Tryz.prog 9 (.string long0) none (some v14)).bind fun v101 =>
       some (v101, h99))
       ((bin Tryz.prog .leq 3 v14 (.int .i64 128)).bind fun v102 =>
       b2 (gOp v102 true (some (s0, h99)) h99) fun v103 h103 =>
       b2 (gOp v102 true (b2 (rn k 87 [(.string long1), v103] h103) fun v h => some (v, h)) h103) fun v104 h104 =>
       (pickV v102 v104 (.bool false)).bind fun v105 =>
       aIf v105
        ((slc Tryz.prog 9 (.string long1) none (some v14)).bind fun v106 =>
        some (v106, h104))
        ((bin Tryz.prog .leq 3 v14 (.int .i64 64)).bind fun v107 =>
        b2 (gOp v107 true (some (s0, h104)) h104) fun v108 h108 =>
        b2 (gOp v107 true (b2 (rn k 87 [(.string long2), v108] h108) fun v h => some (v, h)) h108) fun v109 h109 =>
        (pickV v107 v109 (.bool false)).bind fun v110 =>
        aIf v110
         ((slc Tryz.prog 9 (.string long2) none (some v14)).bind fun v111 =>
         some (v111, h109))
         ((bin Tryz.prog .leq 3 v14 (.int .i64 128)).bind fun v112 =>
         b2 (gOp v112 true (some (s0, h109)) h109) fun v113 h113 =>
         b2 (gOp v112 true (b2 (rn k 87 [(.string long3), v113] h113) fun v h => some (v, h)) h113) fun v114 h114 =>
         (pickV v112 v114 (.bool false)).bind fun v115 =>
         aIf v115
          ((slc Tryz.prog 9 (.string long3) none (some v14)).bind fun v116 =>
          some (v116, h114))
          ((bin Tryz.prog .leq 3 v14 (.int .i64 64)).bind fun v117 =>
          b2 (gOp v117 true (some (s0, h114)) h114) fun v118 h118 =>
          b2 (gOp v117 true (b2 (rn k 87 [(.string ⟨#[9, 9, 9, 9, 9, 9, 9, 9, 9, 9, 9, 9, 9, 9, 9, 9, 9, 9, 9, 9, 9, 9, 9, 9, 9, 9, 9, 9, 9, 9, 9, 9, 9, 9, 9, 9, 9, 9, 9, 9, 9, 9, 9, 9, 9, 9, 9, 9, 9, 9, 9, 9, 9, 9, 9, 9, 9, 9, 9, 9, 9, 9, 9, 9]⟩), v118] h118) fun v h => some (v, h)) h118) fun v119 h119 =>
          (pickV v117 v119 (.bool false)).bind fun v120 =>
          aIf v120
           ((slc Tryz.prog 9 (.string ⟨#[9, 9, 9, 9, 9, 9, 9, 9, 9, 9, 9, 9, 9, 9, 9, 9, 9, 9, 9, 9, 9, 9, 9, 9, 9, 9, 9, 9, 9, 9, 9, 9, 9, 9, 9, 9, 9, 9, 9, 9, 9, 9, 9, 9, 9, 9, 9, 9, 9, 9, 9, 9, 9, 9, 9, 9, 9, 9, 9, 9, 9, 9, 9, 9]⟩) none (some v14)).bind fun v121 =>
           some (v121, h119))
           (f78_J2 k s0 v14 h119))))))
      (f78_J2 k s0 v14 H))
     ((bin Tryz.prog .eql 5 v17 (.int .u8 9)).bind fun v122 =>
     aIf v122
      ((bin Tryz.prog .leq 3 v14 (.int .i64 128)).bind fun v123 =>
      b2 (gOp v123 true (some (s0, H)) H) fun v124 h124 =>
      b2 (gOp v123 true (b2 (rn k 87 [(.string long0), v124] h124) fun v h => some (v, h)) h124) fun v125 h125 =>
      (pickV v123 v125 (.bool false)).bind fun v126 =>
      aIf v126
       ((slc Tryz.prog 9 (.string long0) none (some v14)).bind fun v127 =>
       some (v127, h125))
       ((bin Tryz.prog .leq 3 v14 (.int .i64 128)).bind fun v128 =>
       b2 (gOp v128 true (some (s0, h125)) h125) fun v129 h129 =>
       b2 (gOp v128 true (b2 (rn k 87 [(.string long1), v129] h129) fun v h => some (v, h)) h129) fun v130 h130 =>
       (pickV v128 v130 (.bool false)).bind fun v131 =>
       aIf v131
        ((slc Tryz.prog 9 (.string long1) none (some v14)).bind fun v132 =>
        some (v132, h130))
        ((bin Tryz.prog .leq 3 v14 (.int .i64 64)).bind fun v133 =>
        b2 (gOp v133 true (some (s0, h130)) h130) fun v134 h134 =>
        b2 (gOp v133 true (b2 (rn k 87 [(.string long2), v134] h134) fun v h => some (v, h)) h134) fun v135 h135 =>
        (pickV v133 v135 (.bool false)).bind fun v136 =>
        aIf v136
         ((slc Tryz.prog 9 (.string long2) none (some v14)).bind fun v137 =>
         some (v137, h135))
         ((bin Tryz.prog .leq 3 v14 (.int .i64 128)).bind fun v138 =>
         b2 (gOp v138 true (some (s0, h135)) h135) fun v139 h139 =>
         b2 (gOp v138 true (b2 (rn k 87 [(.string long3), v139] h139) fun v h => some (v, h)) h139) fun v140 h140 =>
         (pickV v138 v140 (.bool false)).bind fun v141 =>
         aIf v141
          ((slc Tryz.prog 9 (.string long3) none (some v14)).bind fun v142 =>
          some (v142, h140))
          ((bin Tryz.prog .leq 3 v14 (.int .i64 64)).bind fun v143 =>
          b2 (gOp v143 true (some (s0, h140)) h140) fun v144 h144 =>
          b2 (gOp v143 true (b2 (rn k 87 [(.string ⟨#[9, 9, 9, 9, 9, 9, 9, 9, 9, 9, 9, 9, 9, 9, 9, 9, 9, 9, 9, 9, 9, 9, 9, 9, 9, 9, 9, 9, 9, 9, 9, 9, 9, 9, 9, 9, 9, 9, 9, 9, 9, 9, 9, 9, 9, 9, 9, 9, 9, 9, 9, 9, 9, 9, 9, 9, 9, 9, 9, 9, 9, 9, 9, 9]⟩), v144] h144) fun v h => some (v, h)) h144) fun v145 h145 =>
          (pickV v143 v145 (.bool false)).bind fun v146 =>
          aIf v146
           ((slc Tryz.prog 9 (.string ⟨#[9, 9, 9, 9, 9, 9, 9, 9, 9, 9, 9, 9, 9, 9, 9, 9, 9, 9, 9, 9, 9, 9, 9, 9, 9, 9, 9, 9, 9, 9, 9, 9, 9, 9, 9, 9, 9, 9, 9, 9, 9, 9, 9, 9, 9, 9, 9, 9, 9, 9, 9, 9, 9, 9, 9, 9, 9, 9, 9, 9, 9, 9, 9, 9]⟩) none (some v14)).bind fun v147 =>
           some (v147, h145))
           (f78_J2 k s0 v14 h145))))))
      (f78_J2 k s0 v14 H)))))) := by kernel_rfl
theorem f78_J2_eq (k : Nat) (s0 s7 : Value) (H : AH) : f78_J2 k s0 s7 H =
(bin Tryz.prog .gtr 3 s7 (.int .i64 8192)).bind fun v148 =>
aIf v148
 ((lenV Tryz.prog 9 s0).bind fun v149 =>
 (bin Tryz.prog .quo 3 (.int .i64 8192) v149).bind fun v150 =>
 (lenV Tryz.prog 9 s0).bind fun v151 =>
 (bin Tryz.prog .mul 3 v150 v151).bind fun v152 =>
 (bin Tryz.prog .eql 3 v152 (.int .i64 0)).bind fun v153 =>
 aIf v153
  ((lenV Tryz.prog 9 s0).bind fun v154 =>
  f78_J3 k s0 s7 v154 H)
  (f78_J3 k s0 s7 v152 H))
 (f78_J3 k s0 s7 s7 H) := by kernel_rfl
theorem f78_J3_eq (k : Nat) (s0 s7 s8 : Value) (H : AH) : f78_J3 k s0 s7 s8 H =
b2 (newV Tryz.prog 92 H) fun v155 h155 =>
b2 (rn k 88 [v155, s7] h155) fun v156 h156 =>
b2 (rn k 49 [v155, s0] h156) fun v157 h157 =>
(f78_L0 k s7 s8 v155 k h157).bind fun p => f78_A0 k p.1 p.2.1 p.2.2 := by kernel_rfl
theorem f78_L0_succ (k : Nat) (s7 s8 s9 : Value) (n : Nat) (H : AH) : f78_L0 k s7 s8 s9 (n + 1) H =
b2 (rn k 89 [s9] H) fun v158 h158 =>
(bin Tryz.prog .lss 3 v158 s7).bind fun v159 =>
aIf v159
 (b2 (rn k 89 [s9] h158) fun v160 h160 =>
 (bin Tryz.prog .sub 3 s7 v160).bind fun v161 =>
 b2 (rn k 89 [s9] h160) fun v162 h162 =>
 (fold1 minV [v161, v162, s8]).bind fun v163 =>
 b2 (rn k 50 [s9] h162) fun v164 h164 =>
 (slc Tryz.prog 9 v164 none (some v163)).bind fun v165 =>
 b2 (rn k 49 [s9, v165] h164) fun v166 h166 =>
 f78_L0 k s7 s8 s9 n h166)
 (some ((.exit 3), (f78_X_L0 s9), h158)) := by kernel_rfl
theorem f78_A0_x3 (k : Nat) (s9 : Value) (H : AH) : f78_A0 k (.exit 3) (f78_X_L0 s9) H =
b2 (rn k 50 [s9] H) fun v167 h167 =>
some (v167, h167) := by kernel_rfl
theorem f78_eq (k : Nat) (a0 a1 : Value) (H : AH) : rn (k + 1) 78 [a0, a1] H =
(bin Tryz.prog .eql 3 a1 (.int .i64 0)).bind fun v1 =>
aIf v1
 (some ((.string ⟨#[]⟩), H))
 ((bin Tryz.prog .eql 3 a1 (.int .i64 1)).bind fun v2 =>
 aIf v2
  (some (a0, H))
  ((bin Tryz.prog .lss 3 a1 (.int .i64 0)).bind fun v3 =>
  aIf v3
   (none)
   (f78_J0 k a0 a1 H))) := by kernel_rfl
theorem f79_eq (k : Nat) (a0 : Value) (H : AH) : rn (k + 1) 79 [a0] H =
b2 (rn k 90 [a0] H) fun v1 h1 =>
(bin Tryz.prog .shr 135 v1 (.int .u64 8)).bind fun v2 =>
(bin Tryz.prog .shr 135 v1 (.int .u64 16)).bind fun v3 =>
(bin Tryz.prog .shr 135 v1 (.int .u64 24)).bind fun v4 =>
b2 (buildS Tryz.prog 143 h1 4 [(0, v1), (1, v2), (2, v3), (3, v4)]) fun v5 h5 =>
b2 (rn k 77 [v5] h5) fun v6 h6 =>
some (v6, h6) := by kernel_rfl
theorem f80_eq (k : Nat) (a0 a1 a2 : Value) (H : AH) : rn (k + 1) 80 [a0, a1, a2] H =
(ld Tryz.prog 27 H a0).bind fun v1 =>
(ld Tryz.prog 27 H a0).bind fun v2 =>
(nilChk v2).bind fun v3 =>
(fldA Tryz.prog 71 v3 1).bind fun v4 =>
(ld Tryz.prog 69 H v4).bind fun v5 =>
(ld Tryz.prog 3 H a1).bind fun v6 =>
(ld Tryz.prog 9 H a2).bind fun v7 =>
(build Tryz.prog 116 [(0, v6), (1, v7)]).bind fun v8 =>
b2 (buildS Tryz.prog 69 H 1 [(0, v8)]) fun v9 h9 =>
b2 (ap Tryz.prog 69 69 h9 v5 v9) fun v10 h10 =>
aChk (ld Tryz.prog 27 h10 a0 = some v1) <|
(nilChk v1).bind fun v11 =>
(fldA Tryz.prog 71 v11 1).bind fun v12 =>
(st Tryz.prog 69 h10 v12 v10).bind fun h13 =>
some ((.tuple #[]), h13) := by kernel_rfl
abbrev f81_T_L0 (s0 s3 s4 : Value) : List Value := [s0, unk, unk, s3, s4] ++ List.replicate 27 unk
abbrev f81_X_L0 (s3 : Value) : List Value := [unk, unk, unk, s3] ++ List.replicate 28 unk
abbrev f81_T_L1 (s0 s3 s4 s5 : Value) : List Value := [s0, unk, unk, s3, s4, s5] ++ List.replicate 26 unk
abbrev f81_X_L1 (s0 s3 s4 : Value) : List Value := [s0, unk, unk, s3, s4] ++ List.replicate 27 unk
@[irreducible] def f81_L0 (k : Nat) (s0 s3 s4 : Value) (n : Nat) (H : AH) : Option Out := iterD (fun T H K => evalK Tryz.prog (rn k) k (tbs 81) (codeAt (bodyOf Tryz.f81) [1, 1, 0, 1, 0, 0]) T H K) (cutT (tbs 81) 10) (cutT (tbs 81) 11) n (f81_T_L0 s0 s3 s4) H
@[irreducible] def f81_A0 (k : Nat) (e : EX) (T : List Value) (H : AH) : Option (Value × AH) := resume Tryz.prog (rn k) k (tbs 81) (bodyOf Tryz.f81) [1, 1, 0, 1, 0] e T H (resK Tryz.prog Tryz.f81.results.toList)
@[irreducible] def f81_L1 (k : Nat) (s0 s3 s4 s5 : Value) (n : Nat) (H : AH) : Option Out := iterD (fun T H K => evalK Tryz.prog (rn k) k (tbs 81) (codeAt (bodyOf Tryz.f81) [1, 1, 0, 1, 0, 0, 1, 0, 0, 1, 1, 0, 0]) T H K) (cutT (tbs 81) 22) (cutT (tbs 81) 23) n (f81_T_L1 s0 s3 s4 s5) H
@[irreducible] def f81_A1 (k : Nat) (n : Nat) (e : EX) (T : List Value) (H : AH) : Option Out := resume Tryz.prog (rn k) k (tbs 81) (codeAt (bodyOf Tryz.f81) [1, 1, 0, 1, 0, 0]) [1, 0, 0, 1, 1, 0] e T H (loopK (iterD (fun T H K => evalK Tryz.prog (rn k) k (tbs 81) (codeAt (bodyOf Tryz.f81) [1, 1, 0, 1, 0, 0]) T H K) (cutT (tbs 81) 10) (cutT (tbs 81) 11) n) (cutT (tbs 81) 10) (cutT (tbs 81) 11))
theorem f81_L0_succ (k : Nat) (s0 s3 s4 : Value) (n : Nat) (H : AH) : f81_L0 k s0 s3 s4 (n + 1) H =
(lenV Tryz.prog 9 s0).bind fun v1 =>
(bin Tryz.prog .lss 3 s4 v1).bind fun v2 =>
aIf v2
 ((ix Tryz.prog 9 s0 s4).bind fun v3 =>
 (cv Tryz.prog 5 135 v3).bind fun v4 =>
 (bin Tryz.prog .xor 135 s3 v4).bind fun v5 =>
 (f81_L1 k s0 v5 s4 (.int .i64 0) k H).bind fun p => f81_A1 k n p.1 p.2.1 p.2.2)
 (some ((.exit 0), (f81_X_L0 s3), H)) := by kernel_rfl
theorem f81_A0_x0 (k : Nat) (s3 : Value) (H : AH) : f81_A0 k (.exit 0) (f81_X_L0 s3) H =
(bin Tryz.prog .xor 135 s3 (.int .u32 4294967295)).bind fun v6 =>
some (v6, H) := by kernel_rfl
theorem f81_L1_succ (k : Nat) (s0 s3 s4 s5 : Value) (n : Nat) (H : AH) : f81_L1 k s0 s3 s4 s5 (n + 1) H =
(bin Tryz.prog .lss 3 s5 (.int .i64 8)).bind fun v7 =>
aIf v7
 ((bin Tryz.prog .rem 135 s3 (.int .u32 2)).bind fun v8 =>
 (bin Tryz.prog .eql 135 v8 (.int .u32 1)).bind fun v9 =>
 aIf v9
  ((bin Tryz.prog .quo 135 s3 (.int .u32 2)).bind fun v10 =>
  (bin Tryz.prog .xor 135 v10 (.int .u32 3988292384)).bind fun v11 =>
  (bin Tryz.prog .add 3 s5 (.int .i64 1)).bind fun v12 =>
  f81_L1 k s0 v11 s4 v12 n H)
  ((bin Tryz.prog .quo 135 s3 (.int .u32 2)).bind fun v13 =>
  (bin Tryz.prog .add 3 s5 (.int .i64 1)).bind fun v14 =>
  f81_L1 k s0 v13 s4 v14 n H))
 (some ((.exit 2), (f81_X_L1 s0 s3 s4), H)) := by kernel_rfl
theorem f81_A1_x2 (k : Nat) (n : Nat) (s0 s3 s4 : Value) (H : AH) : f81_A1 k n (.exit 2) (f81_X_L1 s0 s3 s4) H =
(bin Tryz.prog .add 3 s4 (.int .i64 1)).bind fun v15 =>
f81_L0 k s0 s3 v15 n H := by kernel_rfl
theorem f81_eq (k : Nat) (a0 : Value) (H : AH) : rn (k + 1) 81 [a0] H =
(f81_L0 k a0 (.int .u32 4294967295) (.int .i64 0) k H).bind fun p => f81_A0 k p.1 p.2.1 p.2.2 := by kernel_rfl
abbrev f82_T_L0 (s0 s1 s7 s17 : Value) : List Value := [s0, s1, unk, unk, unk, unk, unk, s7] ++ List.replicate 9 unk ++ [s17] ++ List.replicate 23 unk
abbrev f82_X_L0 (s4 s5 s6 s7 : Value) : List Value := [unk, unk, unk, unk, s4, s5, s6, s7] ++ List.replicate 33 unk
@[irreducible] def f82_L0 (k : Nat) (s0 s1 s7 s17 : Value) (n : Nat) (H : AH) : Option Out := iterD (fun T H K => evalK Tryz.prog (rn k) k (tbs 82) (codeAt (bodyOf Tryz.f82) [1, 1, 1, 0, 1, 0, 0]) T H K) (cutT (tbs 82) 16) (cutT (tbs 82) 17) n (f82_T_L0 s0 s1 s7 s17) H
@[irreducible] def f82_A0 (k : Nat) (e : EX) (T : List Value) (H : AH) : Option (Value × AH) := resume Tryz.prog (rn k) k (tbs 82) (bodyOf Tryz.f82) [1, 1, 1, 0, 1, 0] e T H (resK Tryz.prog Tryz.f82.results.toList)
theorem f82_L0_succ (k : Nat) (s0 s1 s7 s17 : Value) (n : Nat) (H : AH) : f82_L0 k s0 s1 s7 s17 (n + 1) H =
(bin Tryz.prog .lss 3 s17 (.int .i64 2)).bind fun v5 =>
aIf v5
 ((bin Tryz.prog .mul 3 (.int .i64 2) s1).bind fun v6 =>
 (bin Tryz.prog .add 3 v6 s17).bind fun v7 =>
 b2 (rn k 34 [s0, v7] H) fun v8 h8 =>
 (ext v8 0).bind fun v9 =>
 (ext v8 1).bind fun v10 =>
 (bin Tryz.prog .neq 37 v10 (.int .i64 0)).bind fun v11 =>
 aIf v11
  (some (.ret, (f82_X_L0 (.int .i64 0) (.string ⟨#[]⟩) v10 s7), h8))
  ((bin Tryz.prog .add 9 s7 v9).bind fun v12 =>
  (bin Tryz.prog .add 3 s17 (.int .i64 1)).bind fun v13 =>
  f82_L0 k s0 s1 v12 v13 n h8))
 (some ((.exit 0), (f82_X_L0 unk unk unk s7), H)) := by kernel_rfl
theorem f82_A0_x0 (k : Nat) (s4 s5 s6 s7 : Value) (H : AH) : f82_A0 k (.exit 0) (f82_X_L0 s4 s5 s6 s7) H =
b2 (rn k 91 [s7] H) fun v14 h14 =>
(ext v14 0).bind fun v15 =>
(ext v14 1).bind fun v16 =>
(ext v14 2).bind fun v17 =>
some ((.tuple #[v15, v16, v17]), h14) := by kernel_rfl
theorem f82_A0_ret (k : Nat) (s4 s5 s6 s7 : Value) (H : AH) : f82_A0 k .ret (f82_X_L0 s4 s5 s6 s7) H =
some ((.tuple #[s4, s5, s6]), H) := by kernel_rfl
theorem f82_eq (k : Nat) (a0 a1 : Value) (H : AH) : rn (k + 1) 82 [a0, a1] H =
(bin Tryz.prog .lss 3 a1 (.int .i64 0)).bind fun v1 =>
b2 (gOp v1 false (some (a1, H)) H) fun v2 h2 =>
b2 (gOp v1 false ((bin Tryz.prog .gtr 3 v2 (.int .i64 1048576)).bind fun v => some (v, h2)) h2) fun v3 h3 =>
(pickV v1 (.bool true) v3).bind fun v4 =>
aIf v4
 (some ((.tuple #[(.int .i64 0), (.string ⟨#[]⟩), (.int .i64 1)]), h3))
 ((f82_L0 k a0 a1 (.string ⟨#[]⟩) (.int .i64 0) k h3).bind fun p => f82_A0 k p.1 p.2.1 p.2.2) := by kernel_rfl
theorem f84_eq (k : Nat) (a0 a1 : Value) (H : AH) : rn (k + 1) 84 [a0, a1] H =
(bin Tryz.prog .lss 3 a1 (.int .i64 0)).bind fun v1 =>
b2 (gOp v1 false (some (a1, H)) H) fun v2 h2 =>
b2 (gOp v1 false ((bin Tryz.prog .gtr 3 v2 (.int .i64 1048576)).bind fun v => some (v, h2)) h2) fun v3 h3 =>
(pickV v1 (.bool true) v3).bind fun v4 =>
aIf v4
 (some ((.tuple #[(.int .i64 0), (.string ⟨#[]⟩), (.int .i64 1)]), h3))
 ((bin Tryz.prog .mul 3 (.int .i64 2) a1).bind fun v5 =>
 b2 (rn k 35 [a0, v5] h3) fun v6 h6 =>
 (ext v6 0).bind fun v7 =>
 (ext v6 1).bind fun v8 =>
 (bin Tryz.prog .neq 3 v8 (.int .i64 0)).bind fun v9 =>
 aIf v9
  (some ((.tuple #[(.int .i64 0), (.string ⟨#[]⟩), v8]), h6))
  ((bin Tryz.prog .mul 3 (.int .i64 2) a1).bind fun v10 =>
  (bin Tryz.prog .add 3 v10 (.int .i64 1)).bind fun v11 =>
  b2 (rn k 35 [a0, v11] h6) fun v12 h12 =>
  (ext v12 0).bind fun v13 =>
  (ext v12 1).bind fun v14 =>
  (bin Tryz.prog .neq 3 v14 (.int .i64 0)).bind fun v15 =>
  aIf v15
   (some ((.tuple #[(.int .i64 0), (.string ⟨#[]⟩), v14]), h12))
   ((bin Tryz.prog .add 9 v7 v13).bind fun v16 =>
   b2 (rn k 92 [v16] h12) fun v17 h17 =>
   (ext v17 0).bind fun v18 =>
   (ext v17 1).bind fun v19 =>
   (ext v17 2).bind fun v20 =>
   some ((.tuple #[v18, v19, v20]), h17)))) := by kernel_rfl
theorem f85_eq (k : Nat) (a0 a1 : Value) (H : AH) : rn (k + 1) 85 [a0, a1] H =
b2 (rn k 68 [a0] H) fun v1 h1 =>
(nilChk a0).bind fun v2 =>
(fldA Tryz.prog 92 v2 1).bind fun v3 =>
(ld Tryz.prog 63 h1 v3).bind fun v4 =>
b2 (buildS Tryz.prog 63 h1 1 [(0, a1)]) fun v5 h5 =>
b2 (ap Tryz.prog 63 63 h5 v4 v5) fun v6 h6 =>
(nilChk a0).bind fun v7 =>
(fldA Tryz.prog 92 v7 1).bind fun v8 =>
(st Tryz.prog 63 h6 v8 v6).bind fun h9 =>
some (.nilIface, h9) := by kernel_rfl
theorem f86_eq (k : Nat) (a0 a1 : Value) (H : AH) : rn (k + 1) 86 [a0, a1] H =
b2 (rn k 94 [a0, a1] H) fun v1 h1 =>
(ext v1 0).bind fun v2 =>
(ext v1 1).bind fun v3 =>
some ((.tuple #[v2, v3]), h1) := by kernel_rfl
theorem f87_eq (k : Nat) (a0 a1 : Value) (H : AH) : rn (k + 1) 87 [a0, a1] H =
b2 (rn k 95 [a0, a1] H) fun v1 h1 =>
some (v1, h1) := by kernel_rfl
theorem f89_eq (k : Nat) (a0 : Value) (H : AH) : rn (k + 1) 89 [a0] H =
(nilChk a0).bind fun v1 =>
(fldA Tryz.prog 92 v1 1).bind fun v2 =>
(ld Tryz.prog 63 H v2).bind fun v3 =>
(lenV Tryz.prog 63 v3).bind fun v4 =>
some (v4, H) := by kernel_rfl
abbrev f90_T_L0 (s0 s3 s6 s7 : Value) : List Value := [s0, unk, unk, s3, unk, unk, s6, s7] ++ List.replicate 20 unk
abbrev f90_X_L0 (s3 : Value) : List Value := [unk, unk, unk, s3] ++ List.replicate 24 unk
abbrev f90_T_L1 (s0 s3 s6 s7 s16 : Value) : List Value := [s0, unk, unk, s3, unk, unk, s6, s7] ++ List.replicate 8 unk ++ [s16] ++ List.replicate 11 unk
abbrev f90_X_L1 (s0 s3 s6 s7 : Value) : List Value := [s0, unk, unk, s3, unk, unk, s6, s7] ++ List.replicate 20 unk
@[irreducible] def f90_L0 (k : Nat) (s0 s3 s6 s7 : Value) (n : Nat) (H : AH) : Option Out := iterD (fun T H K => evalK Tryz.prog (rn k) k (tbs 90) (codeAt (bodyOf Tryz.f90) [1, 1, 0, 1, 0, 0]) T H K) (cutT (tbs 90) 10) (cutT (tbs 90) 11) n (f90_T_L0 s0 s3 s6 s7) H
@[irreducible] def f90_A0 (k : Nat) (e : EX) (T : List Value) (H : AH) : Option (Value × AH) := resume Tryz.prog (rn k) k (tbs 90) (bodyOf Tryz.f90) [1, 1, 0, 1, 0] e T H (resK Tryz.prog Tryz.f90.results.toList)
@[irreducible] def f90_L1 (k : Nat) (s0 s3 s6 s7 s16 : Value) (n : Nat) (H : AH) : Option Out := iterD (fun T H K => evalK Tryz.prog (rn k) k (tbs 90) (codeAt (bodyOf Tryz.f90) [1, 1, 0, 1, 0, 0, 1, 1, 0, 0, 1, 1, 1, 0, 0]) T H K) (cutT (tbs 90) 22) (cutT (tbs 90) 23) n (f90_T_L1 s0 s3 s6 s7 s16) H
@[irreducible] def f90_A1 (k : Nat) (n : Nat) (e : EX) (T : List Value) (H : AH) : Option Out := resume Tryz.prog (rn k) k (tbs 90) (codeAt (bodyOf Tryz.f90) [1, 1, 0, 1, 0, 0]) [1, 1, 0, 0, 1, 1, 1, 0] e T H (loopK (iterD (fun T H K => evalK Tryz.prog (rn k) k (tbs 90) (codeAt (bodyOf Tryz.f90) [1, 1, 0, 1, 0, 0]) T H K) (cutT (tbs 90) 10) (cutT (tbs 90) 11) n) (cutT (tbs 90) 10) (cutT (tbs 90) 11))
theorem f90_L0_succ (k : Nat) (s0 s3 s6 s7 : Value) (n : Nat) (H : AH) : f90_L0 k s0 s3 s6 s7 (n + 1) H =
(bin Tryz.prog .lss 3 s7 s6).bind fun v2 =>
aIf v2
 ((ix Tryz.prog 9 s0 s7).bind fun v3 =>
 (cv Tryz.prog 5 135 v3).bind fun v4 =>
 (bin Tryz.prog .xor 135 s3 v4).bind fun v5 =>
 (f90_L1 k s0 v5 s6 s7 (.int .i64 0) k H).bind fun p => f90_A1 k n p.1 p.2.1 p.2.2)
 (some ((.exit 0), (f90_X_L0 s3), H)) := by kernel_rfl
theorem f90_A0_x0 (k : Nat) (s3 : Value) (H : AH) : f90_A0 k (.exit 0) (f90_X_L0 s3) H =
(un Tryz.prog .xor s3).bind fun v6 =>
some (v6, H) := by kernel_rfl
theorem f90_L1_succ (k : Nat) (s0 s3 s6 s7 s16 : Value) (n : Nat) (H : AH) : f90_L1 k s0 s3 s6 s7 s16 (n + 1) H =
(bin Tryz.prog .lss 3 s16 (.int .i64 8)).bind fun v7 =>
aIf v7
 ((bin Tryz.prog .shr 135 s3 (.int .u64 1)).bind fun v8 =>
 (bin Tryz.prog .and 135 s3 (.int .u32 1)).bind fun v9 =>
 (bin Tryz.prog .mul 135 (.int .u32 3988292384) v9).bind fun v10 =>
 (bin Tryz.prog .xor 135 v8 v10).bind fun v11 =>
 (bin Tryz.prog .add 3 s16 (.int .i64 1)).bind fun v12 =>
 f90_L1 k s0 v11 s6 s7 v12 n H)
 (some ((.exit 2), (f90_X_L1 s0 s3 s6 s7), H)) := by kernel_rfl
theorem f90_A1_x2 (k : Nat) (n : Nat) (s0 s3 s6 s7 : Value) (H : AH) : f90_A1 k n (.exit 2) (f90_X_L1 s0 s3 s6 s7) H =
(bin Tryz.prog .add 3 s7 (.int .i64 1)).bind fun v13 =>
f90_L0 k s0 s3 s6 v13 n H := by kernel_rfl
theorem f90_eq (k : Nat) (a0 : Value) (H : AH) : rn (k + 1) 90 [a0] H =
(lenV Tryz.prog 9 a0).bind fun v1 =>
(f90_L0 k a0 (.int .u32 4294967295) v1 (.int .i64 0) k H).bind fun p => f90_A0 k p.1 p.2.1 p.2.2 := by kernel_rfl
theorem f91_eq (k : Nat) (a0 : Value) (H : AH) : rn (k + 1) 91 [a0] H =
(lenV Tryz.prog 9 a0).bind fun v1 =>
(bin Tryz.prog .neq 3 v1 (.int .i64 128)).bind fun v2 =>
aIf v2
 (some ((.tuple #[(.int .i64 0), (.string ⟨#[]⟩), (.int .i64 2)]), H))
 ((slc Tryz.prog 9 a0 none (some (.int .i64 124))).bind fun v3 =>
 (ix Tryz.prog 9 a0 (.int .i64 3)).bind fun v4 =>
 (cv Tryz.prog 5 3 v4).bind fun v5 =>
 b2 (rn k 79 [v3] H) fun v6 h6 =>
 (slc Tryz.prog 9 a0 (some (.int .i64 124)) none).bind fun v7 =>
 (bin Tryz.prog .neq 9 v6 v7).bind fun v8 =>
 aIf v8
  (some ((.tuple #[(.int .i64 0), (.string ⟨#[]⟩), (.int .i64 10)]), h6))
  (b2 (rn k 87 [a0, (.string ⟨#[65, 83]⟩)] h6) fun v9 h9 =>
  (un Tryz.prog .not v9).bind fun v10 =>
  b2 (gOp v10 false (some (a0, h9)) h9) fun v11 h11 =>
  b2 (gOp v10 false ((ix Tryz.prog 9 v11 (.int .i64 2)).bind fun v => some (v, h11)) h11) fun v12 h12 =>
  b2 (gOp v10 false ((bin Tryz.prog .lss 5 v12 (.int .u8 1)).bind fun v => some (v, h12)) h12) fun v13 h13 =>
  (pickV v10 (.bool true) v13).bind fun v14 =>
  b2 (gOp v14 false (some (a0, h13)) h13) fun v15 h15 =>
  b2 (gOp v14 false ((ix Tryz.prog 9 v15 (.int .i64 2)).bind fun v => some (v, h15)) h15) fun v16 h16 =>
  b2 (gOp v14 false ((bin Tryz.prog .gtr 5 v16 (.int .u8 9)).bind fun v => some (v, h16)) h16) fun v17 h17 =>
  (pickV v14 (.bool true) v17).bind fun v18 =>
  b2 (gOp v18 false (some (v5, h17)) h17) fun v19 h19 =>
  b2 (gOp v18 false ((bin Tryz.prog .gtr 3 v19 (.int .i64 120)).bind fun v => some (v, h19)) h19) fun v20 h20 =>
  (pickV v18 (.bool true) v20).bind fun v21 =>
  b2 (gOp v21 false (some (v3, h20)) h20) fun v22 h22 =>
  b2 (gOp v21 false (some (v5, h22)) h22) fun v23 h23 =>
  b2 (gOp v21 false ((bin Tryz.prog .add 3 (.int .i64 4) v23).bind fun v => some (v, h23)) h23) fun v24 h24 =>
  b2 (gOp v21 false ((slc Tryz.prog 9 v22 (some v24) none).bind fun v => some (v, h24)) h24) fun v25 h25 =>
  b2 (gOp v21 false (b2 (rn k 97 [v25, (.string ⟨#[0]⟩)] h25) fun v h => some (v, h)) h25) fun v26 h26 =>
  b2 (gOp v21 false ((bin Tryz.prog .neq 9 v26 (.string ⟨#[]⟩)).bind fun v => some (v, h26)) h26) fun v27 h27 =>
  (pickV v21 (.bool true) v27).bind fun v28 =>
  aIf v28
   (some ((.tuple #[(.int .i64 0), (.string ⟨#[]⟩), (.int .i64 2)]), h27))
   ((ix Tryz.prog 9 a0 (.int .i64 2)).bind fun v29 =>
   (cv Tryz.prog 5 3 v29).bind fun v30 =>
   (bin Tryz.prog .add 3 (.int .i64 4) v5).bind fun v31 =>
   (slc Tryz.prog 9 v3 (some (.int .i64 4)) (some v31)).bind fun v32 =>
   some ((.tuple #[v30, v32, (.int .i64 0)]), h27)))) := by kernel_rfl
theorem f92_eq (k : Nat) (a0 : Value) (H : AH) : rn (k + 1) 92 [a0] H =
(lenV Tryz.prog 9 a0).bind fun v1 =>
(bin Tryz.prog .neq 3 v1 (.int .i64 128)).bind fun v2 =>
aIf v2
 (some ((.tuple #[(.int .i64 0), (.string ⟨#[]⟩), (.int .i64 2)]), H))
 ((slc Tryz.prog 9 a0 none (some (.int .i64 124))).bind fun v3 =>
 b2 (rn k 81 [v3] H) fun v4 h4 =>
 (slc Tryz.prog 9 a0 (some (.int .i64 124)) none).bind fun v5 =>
 (cv Tryz.prog 135 5 v4).bind fun v6 =>
 (bin Tryz.prog .shr 135 v4 (.int .u64 8)).bind fun v7 =>
 (cv Tryz.prog 135 5 v7).bind fun v8 =>
 (bin Tryz.prog .shr 135 v4 (.int .u64 16)).bind fun v9 =>
 (cv Tryz.prog 135 5 v9).bind fun v10 =>
 (bin Tryz.prog .shr 135 v4 (.int .u64 24)).bind fun v11 =>
 (cv Tryz.prog 135 5 v11).bind fun v12 =>
 b2 (buildS Tryz.prog 63 h4 4 [(0, v6), (1, v8), (2, v10), (3, v12)]) fun v13 h13 =>
 (cvS Tryz.prog 63 9 h13 v13).bind fun v14 =>
 (bin Tryz.prog .neq 9 v5 v14).bind fun v15 =>
 aIf v15
  (some ((.tuple #[(.int .i64 0), (.string ⟨#[]⟩), (.int .i64 10)]), h13))
  ((ix Tryz.prog 9 a0 (.int .i64 3)).bind fun v16 =>
  (bin Tryz.prog .gtr 5 v16 (.int .u8 120)).bind fun v17 =>
  aIf v17
   (some ((.tuple #[(.int .i64 0), (.string ⟨#[]⟩), (.int .i64 2)]), h13))
   ((ix Tryz.prog 9 a0 (.int .i64 2)).bind fun v18 =>
   (cv Tryz.prog 5 3 v18).bind fun v19 =>
   (ix Tryz.prog 9 a0 (.int .i64 3)).bind fun v20 =>
   (cv Tryz.prog 5 3 v20).bind fun v21 =>
   (bin Tryz.prog .add 3 (.int .i64 4) v21).bind fun v22 =>
   (slc Tryz.prog 9 a0 (some (.int .i64 4)) (some v22)).bind fun v23 =>
   b2 (rn k 64 [v19, v23] h13) fun v24 h24 =>
   (ext v24 0).bind fun v25 =>
   (ext v24 1).bind fun v26 =>
   (un Tryz.prog .not v26).bind fun v27 =>
   b2 (gOp v27 false (some (v25, h24)) h24) fun v28 h28 =>
   b2 (gOp v27 false (some (a0, h28)) h28) fun v29 h29 =>
   b2 (gOp v27 false ((bin Tryz.prog .neq 9 v28 v29).bind fun v => some (v, h29)) h29) fun v30 h30 =>
   (pickV v27 (.bool true) v30).bind fun v31 =>
   aIf v31
    (some ((.tuple #[(.int .i64 0), (.string ⟨#[]⟩), (.int .i64 2)]), h30))
    (some ((.tuple #[v19, v23, (.int .i64 0)]), h30))))) := by kernel_rfl
theorem f94_eq (k : Nat) (a0 a1 : Value) (H : AH) : rn (k + 1) 94 [a0, a1] H =
(bin Tryz.prog .and 152 a0 (.int .u64 4294967295)).bind fun v1 =>
(bin Tryz.prog .shr 152 a0 (.int .u64 32)).bind fun v2 =>
(bin Tryz.prog .and 152 a1 (.int .u64 4294967295)).bind fun v3 =>
(bin Tryz.prog .shr 152 a1 (.int .u64 32)).bind fun v4 =>
(bin Tryz.prog .mul 152 v1 v3).bind fun v5 =>
(bin Tryz.prog .mul 152 v2 v3).bind fun v6 =>
(bin Tryz.prog .shr 152 v5 (.int .u64 32)).bind fun v7 =>
(bin Tryz.prog .add 152 v6 v7).bind fun v8 =>
(bin Tryz.prog .and 152 v8 (.int .u64 4294967295)).bind fun v9 =>
(bin Tryz.prog .shr 152 v8 (.int .u64 32)).bind fun v10 =>
(bin Tryz.prog .mul 152 v1 v4).bind fun v11 =>
(bin Tryz.prog .add 152 v9 v11).bind fun v12 =>
(bin Tryz.prog .mul 152 v2 v4).bind fun v13 =>
(bin Tryz.prog .add 152 v13 v10).bind fun v14 =>
(bin Tryz.prog .shr 152 v12 (.int .u64 32)).bind fun v15 =>
(bin Tryz.prog .add 152 v14 v15).bind fun v16 =>
(bin Tryz.prog .mul 152 a0 a1).bind fun v17 =>
some ((.tuple #[v16, v17]), H) := by kernel_rfl
theorem f95_eq (k : Nat) (a0 a1 : Value) (H : AH) : rn (k + 1) 95 [a0, a1] H =
(lenV Tryz.prog 9 a0).bind fun v1 =>
(lenV Tryz.prog 9 a1).bind fun v2 =>
(bin Tryz.prog .geq 3 v1 v2).bind fun v3 =>
b2 (gOp v3 true (some (a0, H)) H) fun v4 h4 =>
b2 (gOp v3 true (some (a1, h4)) h4) fun v5 h5 =>
b2 (gOp v3 true ((lenV Tryz.prog 9 v5).bind fun v => some (v, h5)) h5) fun v6 h6 =>
b2 (gOp v3 true ((slc Tryz.prog 9 v4 none (some v6)).bind fun v => some (v, h6)) h6) fun v7 h7 =>
b2 (gOp v3 true (some (a1, h7)) h7) fun v8 h8 =>
b2 (gOp v3 true ((bin Tryz.prog .eql 9 v7 v8).bind fun v => some (v, h8)) h8) fun v9 h9 =>
(pickV v3 v9 (.bool false)).bind fun v10 =>
some (v10, h9) := by kernel_rfl
theorem f97_eq (k : Nat) (a0 a1 : Value) (H : AH) : rn (k + 1) 97 [a0, a1] H =
(bin Tryz.prog .eql 9 a0 (.string ⟨#[]⟩)).bind fun v1 =>
b2 (gOp v1 false (some (a1, H)) H) fun v2 h2 =>
b2 (gOp v1 false ((bin Tryz.prog .eql 9 v2 (.string ⟨#[]⟩)).bind fun v => some (v, h2)) h2) fun v3 h3 =>
(pickV v1 (.bool true) v3).bind fun v4 =>
aIf v4
 (some (a0, h3))
 ((lenV Tryz.prog 9 a1).bind fun v5 =>
 (bin Tryz.prog .eql 3 v5 (.int .i64 1)).bind fun v6 =>
 b2 (gOp v6 true (some (a1, h3)) h3) fun v7 h7 =>
 b2 (gOp v6 true ((ix Tryz.prog 9 v7 (.int .i64 0)).bind fun v => some (v, h7)) h7) fun v8 h8 =>
 b2 (gOp v6 true ((bin Tryz.prog .lss 5 v8 (.int .u8 128)).bind fun v => some (v, h8)) h8) fun v9 h9 =>
 (pickV v6 v9 (.bool false)).bind fun v10 =>
 aIf v10
  ((ix Tryz.prog 9 a1 (.int .i64 0)).bind fun v11 =>
  b2 (rn k 100 [a0, v11] h9) fun v12 h12 =>
  (ix Tryz.prog 9 a1 (.int .i64 0)).bind fun v13 =>
  b2 (rn k 99 [v12, v13] h12) fun v14 h14 =>
  some (v14, h14))
  (b2 (rn k 101 [a1] h9) fun v15 h15 =>
  (ext v15 0).bind fun v16 =>
  (ext v15 1).bind fun v17 =>
  b2 (newV Tryz.prog 159 h15) fun v18 h18 =>
  (st Tryz.prog 159 h18 v18 v16).bind fun h19 =>
  aIf v17
   (b2 (rn k 103 [a0, v18] h19) fun v20 h20 =>
   b2 (rn k 102 [v20, v18] h20) fun v21 h21 =>
   some (v21, h21))
   (b2 (rn k 105 [a0, a1] h19) fun v22 h22 =>
   b2 (rn k 104 [v22, a1] h22) fun v23 h23 =>
   some (v23, h23)))) := by kernel_rfl
abbrev f99_T_L0 (s0 s1 : Value) : List Value := [s0, s1] ++ List.replicate 15 unk
abbrev f99_X_L0 (s0 : Value) : List Value := [s0] ++ List.replicate 16 unk
@[irreducible] def f99_L0 (k : Nat) (s0 s1 : Value) (n : Nat) (H : AH) : Option Out := iterD (fun T H K => evalK Tryz.prog (rn k) k (tbs 99) (codeAt (bodyOf Tryz.f99) [1, 0, 0, 0]) T H K) (cutT (tbs 99) 4) (cutT (tbs 99) 5) n (f99_T_L0 s0 s1) H
@[irreducible] def f99_A0 (k : Nat) (e : EX) (T : List Value) (H : AH) : Option (Value × AH) := resume Tryz.prog (rn k) k (tbs 99) (bodyOf Tryz.f99) [1, 0, 0] e T H (resK Tryz.prog Tryz.f99.results.toList)
theorem f99_L0_succ (k : Nat) (s0 s1 : Value) (n : Nat) (H : AH) : f99_L0 k s0 s1 (n + 1) H =
(lenV Tryz.prog 9 s0).bind fun v1 =>
(bin Tryz.prog .gtr 3 v1 (.int .i64 0)).bind fun v2 =>
b2 (gOp v2 true (some (s0, H)) H) fun v3 h3 =>
b2 (gOp v2 true ((ix Tryz.prog 9 v3 (.int .i64 0)).bind fun v => some (v, h3)) h3) fun v4 h4 =>
b2 (gOp v2 true (some (s1, h4)) h4) fun v5 h5 =>
b2 (gOp v2 true ((bin Tryz.prog .eql 5 v4 v5).bind fun v => some (v, h5)) h5) fun v6 h6 =>
(pickV v2 v6 (.bool false)).bind fun v7 =>
aIf v7
 ((slc Tryz.prog 9 s0 (some (.int .i64 1)) none).bind fun v8 =>
 f99_L0 k v8 s1 n h6)
 (some ((.exit 0), (f99_X_L0 s0), h6)) := by kernel_rfl
theorem f99_A0_x0 (k : Nat) (s0 : Value) (H : AH) : f99_A0 k (.exit 0) (f99_X_L0 s0) H =
some (s0, H) := by kernel_rfl
theorem f99_eq (k : Nat) (a0 a1 : Value) (H : AH) : rn (k + 1) 99 [a0, a1] H =
(f99_L0 k a0 a1 k H).bind fun p => f99_A0 k p.1 p.2.1 p.2.2 := by kernel_rfl
abbrev f100_T_L0 (s0 s1 : Value) : List Value := [s0, s1] ++ List.replicate 21 unk
abbrev f100_X_L0 (s0 : Value) : List Value := [s0] ++ List.replicate 22 unk
@[irreducible] def f100_L0 (k : Nat) (s0 s1 : Value) (n : Nat) (H : AH) : Option Out := iterD (fun T H K => evalK Tryz.prog (rn k) k (tbs 100) (codeAt (bodyOf Tryz.f100) [1, 0, 0, 0]) T H K) (cutT (tbs 100) 4) (cutT (tbs 100) 5) n (f100_T_L0 s0 s1) H
@[irreducible] def f100_A0 (k : Nat) (e : EX) (T : List Value) (H : AH) : Option (Value × AH) := resume Tryz.prog (rn k) k (tbs 100) (bodyOf Tryz.f100) [1, 0, 0] e T H (resK Tryz.prog Tryz.f100.results.toList)
theorem f100_L0_succ (k : Nat) (s0 s1 : Value) (n : Nat) (H : AH) : f100_L0 k s0 s1 (n + 1) H =
(lenV Tryz.prog 9 s0).bind fun v1 =>
(bin Tryz.prog .gtr 3 v1 (.int .i64 0)).bind fun v2 =>
b2 (gOp v2 true (some (s0, H)) H) fun v3 h3 =>
b2 (gOp v2 true (some (s0, h3)) h3) fun v4 h4 =>
b2 (gOp v2 true ((lenV Tryz.prog 9 v4).bind fun v => some (v, h4)) h4) fun v5 h5 =>
b2 (gOp v2 true ((bin Tryz.prog .sub 3 v5 (.int .i64 1)).bind fun v => some (v, h5)) h5) fun v6 h6 =>
b2 (gOp v2 true ((ix Tryz.prog 9 v3 v6).bind fun v => some (v, h6)) h6) fun v7 h7 =>
b2 (gOp v2 true (some (s1, h7)) h7) fun v8 h8 =>
b2 (gOp v2 true ((bin Tryz.prog .eql 5 v7 v8).bind fun v => some (v, h8)) h8) fun v9 h9 =>
(pickV v2 v9 (.bool false)).bind fun v10 =>
aIf v10
 ((lenV Tryz.prog 9 s0).bind fun v11 =>
 (bin Tryz.prog .sub 3 v11 (.int .i64 1)).bind fun v12 =>
 (slc Tryz.prog 9 s0 none (some v12)).bind fun v13 =>
 f100_L0 k v13 s1 n h9)
 (some ((.exit 0), (f100_X_L0 s0), h9)) := by kernel_rfl
theorem f100_A0_x0 (k : Nat) (s0 : Value) (H : AH) : f100_A0 k (.exit 0) (f100_X_L0 s0) H =
some (s0, H) := by kernel_rfl
theorem f100_eq (k : Nat) (a0 a1 : Value) (H : AH) : rn (k + 1) 100 [a0, a1] H =
(f100_L0 k a0 a1 k H).bind fun p => f100_A0 k p.1 p.2.1 p.2.2 := by kernel_rfl
end
end Go.AM.F
namespace Go.AM
variable {P : Program} {R α : Type} {f : α → Value} {t e : TypeId} {z : Value} {sz : Nat}
variable {B B0 H0 H : AH} {v w : Value} {ks l : List α} {X La Lb : List (Nat × Blk)} {g : Nat → Nat → Value → AH → Option R} {Q : R → Prop}
theorem permA (X La Lb : List (Nat × Blk)) : (La ++ (X ++ Lb)).Perm (X ++ (La ++ Lb)) := by
  rw [← List.append_assoc, ← List.append_assoc]
  exact List.Perm.append_right _ List.perm_append_comm
end Go.AM
namespace Go.AM.F
open Go Go.AM Go.Proofs
attribute [local irreducible] run bin un ld st box newV mkS fldA fld ixA ix slc slc3 build buildS cv cvS ap cpy lenV gOp pickV b2 aIf aChk evalK resume iterD Option.bind

section
variable {B B0 H0 H : AH} {L : List (Nat × Blk)}
abbrev DK := IsDisk 71 5 116
def DkP (H0 B0 B : AH) (L : List (Nat × Blk)) (p v : Value) (D : Dsk) (r : Value × AH) : Prop := r.1 = v ∧ ∃ Ls B', MoC B B' ∧ DK p D Ls ∧ St H0 B0 B' (Ls ++ L) r.2
theorem Sectors_spec {p : Value} {D : Dsk} {Ls Lx : List (Nat × Blk)} (hD : DK p D Ls) (hO : D.OK) (hS : St H0 B0 B Lx H) (hsub : ∀ x ∈ Ls, x ∈ Lx) :
    Ev (fun k _ => rn k 32 [p] H) (fun r => r = (i64 D.n, H)) := by
  obtain ⟨d, bb, cv, Lc, rfl, hG, rfl⟩ := hD
  have hi : InL d ⟨[sl bb 0 (64 * D.n) (64 * D.n), cv, .int .i64 D.fuse, .bool D.down], 71, .fix⟩ Lx := ⟨hsub _ (.head _)⟩
  refine Ev.fn (fun k => f32_eq k _ H) ?_
  have h1 := hO.n1
  have h2 := hO.n2
  repeat (first|refine zA ?_|refine zB fun _ _ _=>?_|refine zC fun _ _ _=>?_|refine zD fun _ _=>?_|refine zE ?_|refine zF ?_)
  have : 64 * D.n / 64 = D.n := by omega
  rw [this]
  exact Ev.ret rfl
theorem Waiting_spec {p : Value} {D : Dsk} {Ls Lx : List (Nat × Blk)} (hD : DK p D Ls) (hS : St H0 B0 B Lx H) (hsub : ∀ x ∈ Ls, x ∈ Lx) :
    Ev (fun k _ => rn k 33 [p] H) (fun r => r = (i64 D.cache.length, H)) := by
  obtain ⟨d, bb, cv, Lc, rfl, hG, rfl⟩ := hD
  have hi : InL d ⟨[sl bb 0 (64 * D.n) (64 * D.n), cv, .int .i64 D.fuse, .bool D.down], 71, .fix⟩ Lx := ⟨hsub _ (.head _)⟩
  refine Ev.fn (fun k => f33_eq k _ H) ?_
  have := hG.cell
  repeat (first|refine zA ?_|refine zB fun _ _ _=>?_|refine zC fun _ _ _=>?_|refine zD fun _ _=>?_|refine zE ?_|refine zF ?_)
  refine Ev.prim (hG.len (Und.eq (P := Tryz.prog) (t := 69))) ?_
  exact Ev.ret rfl
theorem Down_spec {p : Value} {D : Dsk} {Ls Lx : List (Nat × Blk)} (hD : DK p D Ls) (hS : St H0 B0 B Lx H) (hsub : ∀ x ∈ Ls, x ∈ Lx) :
    Ev (fun k _ => rn k 31 [p] H) (fun r => r = (.bool D.down, H)) := by
  obtain ⟨d, bb, cv, Lc, rfl, hG, rfl⟩ := hD
  have hi : InL d ⟨[sl bb 0 (64 * D.n) (64 * D.n), cv, .int .i64 D.fuse, .bool D.down], 71, .fix⟩ Lx := ⟨hsub _ (.head _)⟩
  refine Ev.fn (fun k => f31_eq k _ H) ?_
  repeat (first|refine zA ?_|refine zB fun _ _ _=>?_|refine zC fun _ _ _=>?_|refine zD fun _ _=>?_|refine zE ?_|refine zF ?_)
  exact Ev.ret rfl
theorem lay_spec {d bb n a : Nat} {cv x y : Value} {bs s : List UInt8} (h2 : n ≤ 1024) (hl : bs.length = 64 * n) (ha : a < n) (hs : s.length ≤ 64)
    (hS : St H0 B0 B ((d, ⟨[sl bb 0 (64 * n) (64 * n), cv, x, y], 71, .fix⟩) :: (bb, ⟨byts bs, 5, .fix⟩) :: L) H) :
    Ev (fun k _ => rn k 74 [ptr d 0, i64 a, str s] H) (fun r => r.1 = .tuple #[] ∧ St H0 B0 B ((d, ⟨[sl bb 0 (64 * n) (64 * n), cv, x, y], 71, .fix⟩) :: (bb, ⟨byts (layB bs a s), 5, .fix⟩) :: L) r.2) := by
  refine Ev.fn (fun k => f74_eq k _ _ _ H) ?_
  repeat (first|refine zA ?_|refine zB fun _ _ _=>?_|refine zC fun _ _ _=>?_|refine zD fun _ _=>?_|refine zE ?_|refine zF ?_)
  refine Ev.prim (slc_own (t := 63) (by omega)) ?_
  rw [if_neg (by omega)]
  refine Ev.cpyStr (t := 63) hS (.tail _ (.head _)) (by omega) (by rw [byts_len]; omega) rfl (.tail _ (.head _)) fun H' hS' => ?_
  refine Ev.ret ⟨rfl, ?_⟩
  rw [byts_lay, Nat.mul_comm 64 a]
  exact hS'
theorem act_spec {d : Nat} {bv cv f : Value} {fu : Int} {dn : Bool} {Q : Value × AH → Prop} (hfu : -1 ≤ fu ∧ fu < 9223372036854775808) (hS : St H0 B0 B ((d, ⟨[bv, cv, .int .i64 fu, .bool dn], 71, .fix⟩) :: L) H)
    (h0 : fu = 0 → ∀ H', St H0 B0 B ((d, ⟨[bv, cv, .int .i64 fu, .bool true], 71, .fix⟩) :: L) H' → Q (.int .i64 7, H'))
    (h1 : fu ≠ 0 → ∀ H', St H0 B0 B ((d, ⟨[bv, cv, .int .i64 (max (fu - 1) (-1)), .bool dn], 71, .fix⟩) :: L) H' → Ev (fun k _ => callY (rn k) f [] H') (fun r => Q (.int .i64 0, r.2))) :
    Ev (fun k _ => rn k 72 [ptr d 0, f] H) Q := by
  refine Ev.fn (fun k => f72_eq k _ _ H) ?_
  repeat (first|refine zA ?_|refine zB fun _ _ _=>?_|refine zC fun _ _ _=>?_|refine zD fun _ _=>?_|refine zE ?_|refine zF ?_)
  by_cases hf : fu = 0
  · rw [decide_eq_true hf]
    repeat (first|refine zA ?_|refine zB fun _ _ _=>?_|refine zC fun _ _ _=>?_|refine zD fun _ _=>?_|refine zE ?_|refine zF ?_)
    exact Ev.ret (h0 hf _ (by assumption))
  · rw [decide_eq_false hf]
    repeat (first|refine zA ?_|refine zB fun _ _ _=>?_|refine zC fun _ _ _=>?_|refine zD fun _ _=>?_|refine zE ?_|refine zF ?_)
    rename_i H1 hS1
    rw [show (if -1 > fu - 1 then (-1 : Int) else fu - 1) = max (fu - 1) (-1) by omega] at hS1
    refine Ev.b2 (h1 hf _ hS1) fun v H' hq => ?_
    exact Ev.ret hq
theorem callY_fn {k : Nat} {g : FuncId} {xs ys : List Value} {args : List Value} {H : AH} (hg : g < yOff) : callY (rn k) (.func (.func g) ⟨xs⟩ ⟨ys⟩) args H = rn k g (xs ++ (args ++ ys)) H := by
  unfold callY callV
  simp only [show Nat.blt g yOff = true by rw [Nat.blt_eq]; exact hg, cond_true]
theorem front3 {x y z d : Nat × Blk} (h : St H0 B0 B (x :: y :: z :: d :: L) H) : St H0 B0 B (d :: x :: y :: z :: L) H := h.perm (List.perm_middle (l₁ := [x, y, z])).symm
theorem back3 {x y z d : Nat × Blk} (h : St H0 B0 B (d :: x :: y :: z :: L) H) : St H0 B0 B (d :: L) H := (h.perm (List.perm_middle (l₁ := [x, y, z]))).drop1.drop1.drop1
theorem toFront {X La : List (Nat × Blk)} (h : St H0 B0 B (La ++ (X ++ L)) H) : St H0 B0 B (X ++ (La ++ L)) H := h.perm (permA La X L)
theorem caCells_snoc (l : List (Nat × List UInt8)) (q : Nat) (s : List UInt8) : caCells (l ++ [(q, s)]) = caCells l ++ [i64 q, str s] := by simp [caCells]
theorem drop_3 {x y z : Nat × Blk} (h : St H0 B0 B (x :: y :: z :: L) H) : St H0 B0 B L H := h.drop1.drop1.drop1
end
end Go.AM.F
namespace Go.AM.F
open Go Go.AM Go.Proofs
attribute [local irreducible] run bin un ld st box newV mkS fldA fld ixA ix slc slc3 build buildS cv cvS ap cpy lenV gOp pickV b2 aIf aChk evalK resume iterD Option.bind

section
variable {B B0 H0 H : AH} {L : List (Nat × Blk)}
theorem Write_spec {p : Value} {D : Dsk} {Ls : List (Nat × Blk)} {i : Int} {s : List UInt8} (hD : DK p D Ls) (hO : D.OK) (hc : D.cache.length < 1000000000000) (hS : St H0 B0 B (Ls ++ L) H) :
    Ev (fun k _ => rn k 63 [p, .int .i64 i, str s] H) (DkP H0 B0 B L p (.int .i64 (D.write i s).1) (D.write i s).2) := by
  have hD0 := hD
  obtain ⟨n, bytes, cache, fu, dn⟩ := D
  obtain ⟨d, bb, cv, Lc, rfl, hG, rfl⟩ := hD
  have h1 := hO.n1
  have h2 := hO.n2
  have hfu := hO.fu
  dsimp only at hS hc h1 h2 hfu hG hD0
  simp only [List.cons_append] at hS
  have hcell := hG.cell
  refine Ev.fn (fun k => f63_eq k _ _ _ H) ?_
  have back : ∀ H', St H0 B0 B ((d, ⟨[sl bb 0 (64 * n) (64 * n), cv, .int .i64 fu, .bool dn], 71, .fix⟩) :: (bb, ⟨byts bytes, 5, .fix⟩) :: (Lc ++ L)) H' → ∃ Ls B', MoC B B' ∧ DK (ptr d 0) ⟨n, bytes, cache, fu, dn⟩ Ls ∧ St H0 B0 B' (Ls ++ L) H' := fun H' h => ⟨_, B, ⟨Mo.refl B⟩, hD0, h⟩
  repeat (first|refine zA ?_|refine zB fun _ _ _=>?_|refine zC fun _ _ _=>?_|refine zD fun _ _=>?_|refine zE ?_|refine zF ?_)
  rename_i b1 H1 hS1 b2 H2 hS2 b3 H3 hS3
  unfold Dsk.write
  dsimp only
  cases dn with
  | true =>
    repeat (first|refine zA ?_|refine zB fun _ _ _=>?_|refine zC fun _ _ _=>?_|refine zD fun _ _=>?_|refine zE ?_|refine zF ?_)
    exact Ev.ret ⟨rfl, back _ (drop_3 hS3)⟩
  | false =>
    repeat (first|refine zA ?_|refine zB fun _ _ _=>?_|refine zC fun _ _ _=>?_|refine zD fun _ _=>?_|refine zE ?_|refine zF ?_)
    rw [if_neg (fun h => by cases h)]
    by_cases hi : i < 0
    · rw [decide_eq_true hi, if_pos (.inl hi)]
      repeat (first|refine zA ?_|refine zB fun _ _ _=>?_|refine zC fun _ _ _=>?_|refine zD fun _ _=>?_|refine zE ?_|refine zF ?_)
      exact Ev.ret ⟨rfl, back _ (drop_3 hS3)⟩
    rw [decide_eq_false hi]
    obtain ⟨q, rfl⟩ : ∃ q : Nat, i = q := ⟨i.toNat, by omega⟩
    repeat (first|refine zA ?_|refine zB fun _ _ _=>?_|refine zC fun _ _ _=>?_|refine zD fun _ _=>?_|refine zE ?_|refine zF ?_)
    refine Ev.b2 (Sectors_spec hD0 hO hS3 ?_) ?_
    · intro x hx
      exact .tail _ (.tail _ (.tail _ (by rw [← List.cons_append, ← List.cons_append]; exact List.mem_append_left _ hx)))
    rintro _ _ ⟨rfl, rfl⟩
    repeat (first|refine zA ?_|refine zB fun _ _ _=>?_|refine zC fun _ _ _=>?_|refine zD fun _ _=>?_|refine zE ?_|refine zF ?_)
    by_cases hq : n ≤ q
    · rw [decide_eq_true hq, if_pos (.inr (.inl (by omega)))]
      repeat (first|refine zA ?_|refine zB fun _ _ _=>?_|refine zC fun _ _ _=>?_|refine zD fun _ _=>?_|refine zE ?_|refine zF ?_)
      exact Ev.ret ⟨rfl, back _ (drop_3 hS3)⟩
    rw [decide_eq_false hq]
    repeat (first|refine zA ?_|refine zB fun _ _ _=>?_|refine zC fun _ _ _=>?_|refine zD fun _ _=>?_|refine zE ?_|refine zF ?_)
    by_cases hl : s.length = 64
    · rw [decide_eq_false (fun h => h hl), if_neg (by omega)]
      repeat (first|refine zA ?_|refine zB fun _ _ _=>?_|refine zC fun _ _ _=>?_|refine zD fun _ _=>?_|refine zE ?_|refine zF ?_)
      rw [show (fun k n : Nat => AM.b2 (rn k 72 [ptr d 0, .func (.func 80) #[] #[ptr b1 0, ptr b2 0, ptr b3 0]] H3) fun v20 h20 => some (v20, h20)) = fun k n => rn k 72 [ptr d 0, .func (.func 80) #[] #[ptr b1 0, ptr b2 0, ptr b3 0]] H3 from funext fun k => funext fun _ => b2_id _]
      refine act_spec hfu (front3 hS3) (fun h0 H' hS' => ?_) (fun h0 H' hS' => ?_)
      · unfold Dsk.act
        dsimp only
        rw [if_pos h0]
        exact ⟨rfl, _, B, ⟨Mo.refl B⟩, ⟨d, bb, cv, Lc, rfl, hG, rfl⟩, back3 hS'⟩
      · unfold Dsk.act
        dsimp only
        rw [if_neg h0]
        simp only [callY_fn (show 80 < yOff by unfold yOff; omega)]
        clear hS hS1 hS2 hS3 back
        refine Ev.fn (fun k => f80_eq k _ _ _ H') ?_
        repeat (first|refine zA ?_|refine zB fun _ _ _=>?_|refine zC fun _ _ _=>?_|refine zD fun _ _=>?_|refine zE ?_|refine zF ?_)
        have hS4 := toFront (X := Lc) (La := [(d, _), (b3, _), (b2, _), (b1, _), (bb, _)]) (L := L) hS'
        refine GAcc.push (ds := [i64 q, str s]) (hG.acc hS4) rfl rfl rfl rfl (by omega) (by omega) fun v' B' H5 hm hA => ?_
        obtain ⟨Lx, hG5, hS5⟩ := hA.grs
        have hS6 := toFront (X := [(d, _), (b3, _), (b2, _), (b1, _), (bb, _)]) (La := Lx) (L := L) hS5
        simp only [List.cons_append, List.nil_append] at hS6
        have hcell5 := hG5.cell
        clear hS' hS4 hS5 hA
        repeat (first|refine zA ?_|refine zB fun _ _ _=>?_|refine zC fun _ _ _=>?_|refine zD fun _ _=>?_|refine zE ?_|refine zF ?_)
        rename_i H6 hS7
        refine Ev.ret ⟨rfl, _, B', hm, ⟨d, bb, v', Lx, rfl, ?_, rfl⟩, back3 hS7⟩
        unfold Dsk.put
        dsimp only
        rw [caCells_snoc, List.length_append]
        exact hG5
    · rw [decide_eq_true hl, if_pos (.inr (.inr hl))]
      repeat (first|refine zA ?_|refine zB fun _ _ _=>?_|refine zC fun _ _ _=>?_|refine zD fun _ _=>?_|refine zE ?_|refine zF ?_)
      exact Ev.ret ⟨rfl, back _ (drop_3 hS3)⟩
end
end Go.AM.F
namespace Go.AM.F
open Go Go.AM Go.Proofs
attribute [local irreducible] run bin un ld st box newV mkS fldA fld ixA ix slc slc3 build buildS cv cvS ap cpy lenV gOp pickV b2 aIf aChk evalK resume iterD Option.bind

section
variable {B B0 H0 H : AH} {L : List (Nat × Blk)}
theorem New_spec {n : Nat} (h1 : 1 ≤ n) (h2 : n ≤ 1024) (hS : St H0 B0 B L H) :
    Ev (fun k _ => rn k 22 [i64 n] H) (fun r => ∃ p Ls B', r.1 = .tuple #[p, .int .i64 0] ∧ MoC B B' ∧ DK p (Dsk.new n) Ls ∧ St H0 B0 B' (Ls ++ L) r.2) := by
  refine Ev.fn (fun k => f22_eq k _ H) ?_
  repeat (first|refine zA ?_|refine zB fun _ _ _=>?_|refine zC fun _ _ _=>?_|refine zD fun _ _=>?_|refine zE ?_|refine zF ?_)
  rw [decide_eq_false (by omega)]
  repeat (first|refine zA ?_|refine zB fun _ _ _=>?_|refine zC fun _ _ _=>?_|refine zD fun _ _=>?_|refine zE ?_|refine zF ?_)
  rw [decide_eq_false (by omega)]
  repeat (first|refine zA ?_|refine zB fun _ _ _=>?_|refine zC fun _ _ _=>?_|refine zD fun _ _=>?_|refine zE ?_|refine zF ?_)
  refine Ev.mkS (t := 63) inferInstance hS (by omega) (by omega) fun bb B' H' hm hS' => ?_
  clear hS
  repeat (first|refine zA ?_|refine zB fun _ _ _=>?_|refine zC fun _ _ _=>?_|refine zD fun _ _=>?_|refine zE ?_|refine zF ?_)
  rename_i d H1 hS1
  refine Ev.ret ⟨_, _, B', rfl, ⟨hm⟩, ⟨d, bb, _, [], rfl, .inl ⟨rfl, rfl, .inl rfl, rfl⟩, rfl⟩, ?_⟩
  unfold Dsk.new
  dsimp only
  rw [byts_rep, Nat.mul_comm 64 n]
  exact hS1
theorem barrier_loop {b1 d bb : Nat} {cv : Value} {Lc : List (Nat × Blk)} {D : Dsk} (hO : D.OK) (hG : GRS 116 2 cv D.cache.length (caCells D.cache) Lc) (hc : D.cache.length < 1000000000000) :
    ∀ (m i : Nat) (B H : AH), i + m = D.cache.length → St H0 B0 B ((b1, ⟨[ptr d 0], 27, .fix⟩) :: (d, ⟨[sl bb 0 (64 * D.n) (64 * D.n), cv, .int .i64 D.fuse, .bool D.down], 71, .fix⟩) :: (bb, ⟨byts (layAll (D.cache.take i) D.bytes), 5, .fix⟩) :: (Lc ++ L)) H →
    Ev (fun k K => f73_L0 k (ptr b1 0) cv (i64 D.cache.length) (i64 i) K H) (fun o => ∃ B' H', o = (.exit 0, f73_X_L0 (ptr b1 0), H') ∧ MoC B B' ∧
      St H0 B0 B' ((b1, ⟨[ptr d 0], 27, .fix⟩) :: (d, ⟨[sl bb 0 (64 * D.n) (64 * D.n), cv, .int .i64 D.fuse, .bool D.down], 71, .fix⟩) :: (bb, ⟨byts (layAll D.cache D.bytes), 5, .fix⟩) :: (Lc ++ L)) H') := by
  intro m
  induction m with
  | zero =>
    intro i B H hi hS
    refine Ev.succ (fun k K => f73_L0_succ k _ _ _ _ K H) ?_
    repeat (first|refine zA ?_|refine zB fun _ _ _=>?_|refine zC fun _ _ _=>?_|refine zD fun _ _=>?_|refine zE ?_|refine zF ?_)
    rw [decide_eq_false (by omega)]
    repeat (first|refine zA ?_|refine zB fun _ _ _=>?_|refine zC fun _ _ _=>?_|refine zD fun _ _=>?_|refine zE ?_|refine zF ?_)
    rw [List.take_of_length_le (by omega)] at hS
    exact Ev.ret ⟨B, H, rfl, ⟨Mo.refl B⟩, hS⟩
  | succ m ih =>
    intro i B H hi hS
    refine Ev.succ (fun k K => f73_L0_succ k _ _ _ _ K H) ?_
    repeat (first|refine zA ?_|refine zB fun _ _ _=>?_|refine zC fun _ _ _=>?_|refine zD fun _ _=>?_|refine zE ?_|refine zF ?_)
    rw [decide_eq_true (by omega)]
    repeat (first|refine zA ?_|refine zB fun _ _ _=>?_|refine zC fun _ _ _=>?_|refine zD fun _ _=>?_|refine zE ?_|refine zF ?_)
    obtain ⟨⟨a, s⟩, ha⟩ : ∃ x, D.cache[i]? = some x := ⟨_, List.getElem?_eq_getElem (by omega)⟩
    have hmem := hO.ca (a, s) (List.mem_of_getElem? ha)
    dsimp only at hmem
    have hN := hG.now hS (fun p hp => .tail _ (.tail _ (.tail _ (List.mem_append_left _ hp))))
    obtain ⟨p, q1, q2⟩ := hN.ldAt (P := Tryz.prog) (t := 69) (k := .i64) (i := i) (by omega) (AggOf.eq (P := Tryz.prog) (t := 116))
    rw [caCells_at ha] at q2
    refine Ev.prim q1 ?_
    refine Ev.prim q2 ?_
    repeat (first|refine zA ?_|refine zB fun _ _ _=>?_|refine zC fun _ _ _=>?_|refine zD fun _ _=>?_|refine zE ?_|refine zF ?_)
    rename_i b2 H2 hS2 H3 hS3
    have hS4 := hS3.perm (show ([(d, _), (bb, _), (b2, _), (b1, _)] ++ (Lc ++ L)).Perm _ from (List.Perm.append_right _ (perm22 _ _ _ _)))
    refine Ev.b2 (lay_spec (n := D.n) hO.n2 (layAll_len _ _ _ hO.len fun p hp => hO.ca p (List.mem_of_mem_take hp)) hmem.1 (by omega) hS4) ?_
    rintro _ H5 ⟨_, hS5⟩
    dsimp only at hS5
    rw [← lay_at ha] at hS5
    repeat (first|refine zA ?_|refine zB fun _ _ _=>?_|refine zC fun _ _ _=>?_|refine zD fun _ _=>?_|refine zE ?_|refine zF ?_)
    have hS6 := (hS5.perm (show ([(b2, _), (b1, _), (d, _), (bb, _)] ++ (Lc ++ L)).Perm _ from (List.Perm.append_right _ (perm22 _ _ _ _)))).drop1
    exact ih (i + 1) B H5 (by omega) hS6
theorem Barrier1_spec {b1 d bb : Nat} {cv : Value} {Lc : List (Nat × Blk)} {D : Dsk} (hO : D.OK) (hG : GRS 116 2 cv D.cache.length (caCells D.cache) Lc) (hc : D.cache.length < 1000000000000)
    (hS : St H0 B0 B ((b1, ⟨[ptr d 0], 27, .fix⟩) :: (d, ⟨[sl bb 0 (64 * D.n) (64 * D.n), cv, .int .i64 D.fuse, .bool D.down], 71, .fix⟩) :: (bb, ⟨byts D.bytes, 5, .fix⟩) :: (Lc ++ L)) H) :
    Ev (fun k _ => rn k 73 [ptr b1 0] H) (DkP H0 B0 B L (ptr d 0) (.tuple #[]) D.flush) := by
  refine Ev.fn (fun k => f73_eq k _ H) ?_
  have hcell := hG.cell
  repeat (first|refine zA ?_|refine zB fun _ _ _=>?_|refine zC fun _ _ _=>?_|refine zD fun _ _=>?_|refine zE ?_|refine zF ?_)
  refine Ev.prim (hG.len (Und.eq (P := Tryz.prog) (t := 69))) ?_
  refine Ev.bind (Ev.loop (barrier_loop hO hG hc D.cache.length 0 B H (by omega) hS)) ?_
  rintro _ ⟨B', H', rfl, hm, hS'⟩
  refine Ev.eq (fun k _ => f73_A0_x0 k _ _) ?_
  clear hS
  repeat (first|refine zA ?_|refine zB fun _ _ _=>?_|refine zC fun _ _ _=>?_|refine zD fun _ _=>?_|refine zE ?_|refine zF ?_)
  rename_i H1 hS1
  have hS2 := (toFront (X := Lc) (La := [(b1, _), (d, _), (bb, _)]) (L := L) hS1)
  refine Ev.ret ⟨rfl, _, B', hm, ⟨d, bb, _, [], rfl, .inl ⟨rfl, rfl, .inl rfl, rfl⟩, rfl⟩, ?_⟩
  have hS3 : St H0 B0 B' ([(b1, _), (d, _), (bb, _)] ++ L) H1 := hS2.drop (List.sublist_append_right _ _)
  exact hS3.drop1
theorem Barrier_spec {p : Value} {D : Dsk} {Ls : List (Nat × Blk)} (hD : DK p D Ls) (hO : D.OK) (hc : D.cache.length < 1000000000000) (hS : St H0 B0 B (Ls ++ L) H) :
    Ev (fun k _ => rn k 54 [p] H) (DkP H0 B0 B L p (.int .i64 D.barrier.1) D.barrier.2) := by
  have hD0 := hD
  obtain ⟨n, bytes, cache, fu, dn⟩ := D
  obtain ⟨d, bb, cv, Lc, rfl, hG, rfl⟩ := hD
  have hfu := hO.fu
  dsimp only at hS hc hfu hG hD0
  simp only [List.cons_append] at hS
  have hcell := hG.cell
  refine Ev.fn (fun k => f54_eq k _ H) ?_
  repeat (first|refine zA ?_|refine zB fun _ _ _=>?_|refine zC fun _ _ _=>?_|refine zD fun _ _=>?_|refine zE ?_|refine zF ?_)
  rename_i b1 H1 hS1
  unfold Dsk.barrier
  dsimp only
  cases dn with
  | true =>
    repeat (first|refine zA ?_|refine zB fun _ _ _=>?_|refine zC fun _ _ _=>?_|refine zD fun _ _=>?_|refine zE ?_|refine zF ?_)
    exact Ev.ret ⟨rfl, _, B, ⟨Mo.refl B⟩, hD0, hS1.drop1⟩
  | false =>
    repeat (first|refine zA ?_|refine zB fun _ _ _=>?_|refine zC fun _ _ _=>?_|refine zD fun _ _=>?_|refine zE ?_|refine zF ?_)
    rw [if_neg (fun h => by cases h)]
    rw [show (fun k n : Nat => AM.b2 (rn k 72 [ptr d 0, .func (.func 73) #[] #[ptr b1 0]] H1) fun v20 h20 => some (v20, h20)) = fun k n => rn k 72 [ptr d 0, .func (.func 73) #[] #[ptr b1 0]] H1 from funext fun k => funext fun _ => b2_id _]
    refine act_spec hfu (hS1.perm (List.Perm.swap _ _ _)) (fun h0 H' hS' => ?_) (fun h0 H' hS' => ?_)
    · unfold Dsk.act
      dsimp only
      rw [if_pos h0]
      exact ⟨rfl, _, B, ⟨Mo.refl B⟩, ⟨d, bb, cv, Lc, rfl, hG, rfl⟩, (hS'.perm (List.Perm.swap _ _ _)).drop1⟩
    · unfold Dsk.act
      dsimp only
      rw [if_neg h0]
      simp only [callY_fn (show 73 < yOff by unfold yOff; omega)]
      refine (Barrier1_spec (D := ⟨n, bytes, cache, max (fu - 1) (-1), false⟩) hO.actD hG hc (hS'.perm (List.Perm.swap _ _ _))).mono ?_
      rintro ⟨v, H2⟩ ⟨_, hq⟩
      exact ⟨rfl, hq⟩
end
end Go.AM.F
namespace Go.AM
instance {p : Option Nat} : IsCell (.map p) := ⟨rfl⟩
def intV (l : List Int) : List Value := l.map fun n => .int .i64 n
theorem intV_len (l : List Int) : (intV l).length = l.length := by simp [intV]
theorem intV_snoc (l : List Int) (x : Int) : intV (l ++ [x]) = intV l ++ [.int .i64 x] := by simp [intV]
def FRS (e : TypeId) (v : Value) (l : List Int) (Lx : List (Nat × Blk)) : Prop :=
  (l = [] ∧ (v = .slice none 0 0 ∨ ∃ b off, v = sl b off 0 0) ∧ Lx = []) ∨
  (∃ b cap rest, v = sl b 0 l.length cap ∧ cap ≠ 0 ∧ l.length ≤ cap ∧ Lx = [(b, ⟨intV l ++ rest, e, .grow⟩)])
section
variable {P : Program} {R : Type} {e t : TypeId} {v : Value} {l : List Int} {Lx : List (Nat × Blk)} {H0 B0 B H : AH} {L : List (Nat × Blk)}
theorem FRS.nil : FRS e (.slice none 0 0) [] [] := .inl ⟨rfl, .inl rfl, rfl⟩
theorem FRS.cell (h : FRS e v l Lx) : IsCell v := by
  rcases h with ⟨_, rfl | ⟨b, off, rfl⟩, _⟩ | ⟨b, cap, rest, rfl, _⟩ <;> exact inferInstance
theorem FRS.len {e' : TypeId} (hU : P.underlying t = some (.slice e')) (h : FRS e v l Lx) : lenV P t v = some (i64 l.length) := by
  rcases h with ⟨rfl, rfl | ⟨b, off, rfl⟩, _⟩ | ⟨b, cap, rest, rfl, _⟩ <;> exact lenV_sl hU
theorem FRS.now {Ly : List (Nat × Blk)} (h : FRS e v l Lx) (hS : St H0 B0 B Ly H) (hsub : ∀ p ∈ Lx, p ∈ Ly) : ScN H v l.length 1 (intV l) := by
  rcases h with ⟨rfl, rfl | ⟨b, off, rfl⟩, rfl⟩ | ⟨b, cap, rest, rfl, h1, h2, rfl⟩
  · exact .inl ⟨rfl, rfl, rfl⟩
  · exact .inr ⟨b, off, 0, rfl, Nat.le_refl _, by simp [intV], .inl rfl⟩
  · refine .inr ⟨b, 0, cap, rfl, h2, by simp [intV_len], .inr ⟨_, hS.get (hsub _ (List.mem_singleton.2 rfl)), ?_⟩⟩
    unfold rdN
    rw [if_pos (by simp [intV_len]), List.drop_zero, Nat.mul_one, List.take_append_of_le_length (by simp [intV_len]), List.take_of_length_le (by simp [intV_len])]
theorem FRS.back {j : Nat} (hE : Elt P t e (.int .i64 0) 8) (h : FRS e v l Lx) (hj : j ≤ l.length) : ∃ v', slc P t v none (some (.int .i64 (j : Int))) = some v' ∧ FRS e v' (l.take j) Lx := by
  rcases h with ⟨rfl, hv, rfl⟩ | ⟨b, cap, rest, rfl, h1, h2, rfl⟩
  · have : j = 0 := by simpa using hj
    subst this
    rcases hv with rfl | ⟨b, off, rfl⟩
    · refine ⟨.slice none 0 0, ?_, .inl ⟨rfl, .inl rfl, rfl⟩⟩
      unfold slc; rw [hE.U]; simp only [intOr, Option.bind_some]
      rw [if_pos ⟨hE.I, rfl, rfl⟩]
    · refine ⟨sl b off 0 0, ?_, .inl ⟨rfl, .inr ⟨b, off, rfl⟩, rfl⟩⟩
      unfold slc sl; rw [hE.U]; simp only [intOr, Option.bind_some]
      rw [if_pos ⟨hE.I, by omega, by omega, by omega⟩]
      simp
  · have hlen : (l.take j).length = j := by rw [List.length_take]; omega
    refine ⟨sl b 0 j cap, ?_, .inr ⟨b, cap, intV (l.drop j) ++ rest, by rw [hlen], h1, by omega, ?_⟩⟩
    · unfold slc sl; rw [hE.U]; simp only [intOr, Option.bind_some]
      rw [if_pos ⟨hE.I, by omega, by omega, by omega⟩]
      simp [h1]
    · rw [← List.append_assoc]
      congr 4
      unfold intV
      rw [← List.map_append, List.take_append_drop]
theorem FRS.push {x : Int} {f : Nat → Nat → Value → AH → Option R} {Q : R → Prop} (hE : Elt P t e (.int .i64 0) 8) (h : FRS e v l Lx) (hS : St H0 B0 B (Lx ++ L) H) (hl : l.length + 1 ≤ 1000000000000)
    (hk : ∀ v' Lx' H', FRS e v' (l ++ [x]) Lx' → St H0 B0 B (Lx' ++ L) H' → Ev (fun k n => f k n v' H') Q) :
    Ev (fun k n => Go.AM.b2 (Go.AM.buildS P t H 1 [(0, .int .i64 x)]) fun w h => Go.AM.b2 (Go.AM.ap P t t h v w) (f k n)) Q := by
  have hb : Go.AM.buildS P t H 1 [(0, .int .i64 x)] = some (sl H.length 0 1 1, mkB H [.int .i64 x] e .fix) := by
    unfold Go.AM.buildS
    rw [hE.U]; simp only [hE.Z, Option.bind_some, hE.S]
    rw [if_pos ⟨by omega, rfl⟩]
    simp only [fillB, rep, List.append_nil, Nat.zero_mul]
    rw [if_pos ⟨rfl, by simp [Value.cells], rfl⟩]
    rfl
  refine Ev.prim2 hb ?_
  have hw : ScN (mkB H [.int .i64 x] e .fix) (sl H.length 0 1 1) 1 1 [.int .i64 x] := by
    refine .inr ⟨H.length, 0, 1, rfl, Nat.le_refl _, rfl, .inr ⟨_, blk_mkB_new, rfl⟩⟩
  have hES : EltS P t e [.int .i64 0] 1 8 := inferInstance
  have ha := ap_eqS (P := P) (t := t) (u := t) (s := v) hE.U hw rfl
  have hgk : gkl [Value.int .i64 0] = .grow := rfl
  rw [hgk] at ha
  have hS1 := (hS.mkB' [.int .i64 x] e .fix).drop1
  rcases h with ⟨rfl, hv, rfl⟩ | ⟨b, cap, rest, rfl, h1, h2, rfl⟩
  · refine Ev.prim2 (v := sl (mkB H [.int .i64 x] e .fix).length 0 1 2) (H := mkB (mkB H [.int .i64 x] e .fix) [.int .i64 x] e .grow) ?_ (hk _ [((mkB H [.int .i64 x] e .fix).length, ⟨[.int .i64 x], e, .grow⟩)] _ (.inr ⟨_, 2, [], rfl, by simp, by simp, rfl⟩) (hS1.mkB' _ _ _))
    rw [ha]
    rcases hv with rfl | ⟨b, off, rfl⟩
    · unfold apS
      try dsimp only
      rw [if_neg (by decide), if_pos (by decide)]
      rfl
    · unfold apS sl
      dsimp only
      rw [if_neg (by decide), if_pos rfl, if_pos (by decide)]
  · have hb1 := hS1.get (.head _)
    refine Ev.prim2 (v := sl (mkB H [.int .i64 x] e .fix).length 0 (l.length + 1) (l.length + 1 + 1)) (H := mkB (kill (mkB H [.int .i64 x] e .fix) b) (intV l ++ [.int .i64 x]) e .grow) ?_
      (hk _ [((mkB H [.int .i64 x] e .fix).length, ⟨intV (l ++ [x]), e, .grow⟩)] _ (.inr ⟨(mkB H [.int .i64 x] e .fix).length, l.length + 1 + 1, [], by rw [List.length_append]; rfl, by omega, by rw [List.length_append]; simp, by rw [List.append_nil]⟩) ?_)
    · rw [ha]
      unfold apS sl
      dsimp only
      rw [if_neg (by decide), if_neg h1, hb1, Option.bind_some]
      have hrd : rdN ⟨intV l ++ rest, e, .grow⟩ 0 (l.length * 1) = some (intV l) := by
        unfold rdN
        rw [if_pos (by simp [intV_len]), List.drop_zero, Nat.mul_one, List.take_append_of_le_length (by simp [intV_len]), List.take_of_length_le (by simp [intV_len])]
      rw [hrd, Option.bind_some, if_pos ⟨by omega, by omega, rfl⟩]
      dsimp only
      rw [if_pos rfl]
    · have := hS1.kill.mkB' (intV l ++ [.int .i64 x]) e .grow
      rw [length_kill, ← intV_snoc] at this
      rw [intV_snoc] at this
      rw [intV_snoc]
      exact this
end
structure Pgr where
  turn : Nat
  root : Int
  used : List Int
  fresh : List Int
  down : Bool
def Pgr.told (G : Pgr) (e : Int) : Pgr := { G with down := G.down || decide (e = 7) }
def hwrite (D : Dsk) (turn : Nat) (root : Int) (U : List Int) : Int × Dsk := D.pwrite ((turn % 2 : Nat) : Int) 1 (textH turn root U)
def Pgr.alloc (G : Pgr) (m : Nat) : Int × Int × Pgr :=
  if G.down = true then (0, 7, G) else
  match (List.range m).find? fun (n : Nat) => !decide ((n : Int) ∈ G.used) && !decide ((n : Int) ∈ G.fresh) with
  | some n => ((n : Int), 0, { G with fresh := G.fresh ++ [(n : Int)] })
  | none => (0, 6, G)
def Pgr.back (G : Pgr) (many : Int) : Pgr := { G with fresh := G.fresh.take many.toNat }
def Pgr.list (G : Pgr) (m : Nat) : List Int := ((List.range m).map fun (n : Nat) => (n : Int)).filter fun n => decide (n ∈ G.used)
def Pgr.write (G : Pgr) (D : Dsk) (n kind : Int) (t : List UInt8) : Int × Pgr × Dsk :=
  if G.down = true then (7, G, D) else if n ∉ G.fresh then (8, G, D) else ((D.pwrite n kind t).1, G.told (D.pwrite n kind t).1, (D.pwrite n kind t).2)
def Pgr.read (G : Pgr) (D : Dsk) (n : Int) : (Int × List UInt8 × Int) × Pgr :=
  if G.down = true then ((0, [], 7), G) else if n < 0 ∨ (D.n / 2 : Nat) ≤ n then ((0, [], 1), G) else (D.pread n, G.told (D.pread n).2.2)
def Dsk.format (D : Dsk) : Int × Dsk :=
  if D.n / 2 < 4 then (1, D) else if (hwrite D 1 0 [0, 1]).1 ≠ 0 then hwrite D 1 0 [0, 1] else (hwrite D 1 0 [0, 1]).2.barrier
theorem st_dead {H0 B0 B X : AH} {L : List (Nat × Blk)} (h : St H0 B0 B L X) : St H0 B0 B L (X ++ [none]) := by
  have h1 := (h.mkB' [] 0 .fix).kill
  have e : kill (AM.mkB X [] 0 .fix) X.length = X ++ [none] := by
    unfold AM.kill AM.mkB
    rw [List.set_append_right _ _ (Nat.le_refl _), Nat.sub_self]; rfl
  rwa [e] at h1
section
variable {R : Type} {H0 B0 B H : AH} {L L' : List (Nat × Blk)}
theorem Ev.gText {hb mb b : Nat} {t r : Value} {T tm e : TypeId} {U : List Int} {cs : List Value} {f : Nat → Nat → AH → Option R} {Q : R → Prop} (hS : St H0 B0 B L H) (h1 : (hb, ⟨[t, r, .map (some mb)], T, .fix⟩) ∈ L) (h2 : (mb, ⟨entI U, tm, .map⟩) ∈ L)
    (hu : Upd b ⟨cs ++ List.replicate 64 (.int .u8 0), e, .fix⟩ ⟨cs ++ bmV U, e, .fix⟩ L L') (h3 : (b, ⟨cs ++ List.replicate 64 (.int .u8 0), e, .fix⟩) ∈ L) (hc : cs.length = 8) (hU : ∀ n ∈ U, 0 ≤ n ∧ n < 512)
    (h : ∀ H', St H0 B0 B L' H' → Ev (fun k n => f k n H') Q) : Ev (fun k n => (gText [ptr hb 0, sl b 0 72 72] H).bind (f k n)) Q := by
  have g1 := hS.get h1
  have g2 := hS.get h2
  have g3 := hS.get h3
  have hne : mb ≠ b := by rintro rfl; rw [g2] at g3; injection g3 with g3; injection g3 with _ _ g4; cases g4
  have e1 : AM.gText [ptr hb 0, sl b 0 72 72] H = some (put H b ⟨cs ++ List.replicate 64 (.int .u8 0), e, .fix⟩ (cs ++ bmV U) ++ [none]) := by
    have e0 : AM.gText [ptr hb 0, sl b 0 72 72] H = (((blk H hb).bind fun k => k.cells[2]?).bind fun mv => (gBits [mv, sl b 0 72 72] H).map fun H' => H' ++ [none]) := rfl
    rw [e0, g1, Option.bind_some]
    show Option.bind (some (Value.map (some mb))) _ = _
    rw [Option.bind_some]
    have e2 : gBits [.map (some mb), sl b 0 72 72] H = ((mapB H mb).bind fun km => (keysI km.cells).bind fun S => (blk H b).bind fun k =>
      aChk (mb ≠ b ∧ (∀ n ∈ S, 0 ≤ n ∧ n < 512) ∧ k.kind = .fix ∧ k.cells.length = 72 ∧ k.cells.drop 8 = List.replicate 64 (.int .u8 0)) (some (put H b k (k.cells.take 8 ++ bmV S)))) := rfl
    rw [e2]
    unfold mapB
    rw [g2, Option.bind_some, if_pos rfl, Option.bind_some, keysI_ent, Option.bind_some, g3, Option.bind_some]
    unfold aChk
    rw [if_pos ⟨hne, hU, rfl, by rw [List.length_append, hc]; simp, by rw [List.drop_append_of_le_length (by omega), ← hc, List.drop_length, List.nil_append]⟩]
    rw [List.take_append_of_le_length (by omega), ← hc, List.take_length]
    rfl
  refine Ev.prim e1 (h _ ?_)
  exact st_dead (hS.put (cs := cs ++ bmV U) hu)
end
end Go.AM
namespace Go.AM
section
variable {P : Program} {t : TypeId}
theorem shl8 {a : Nat} {k' : IntKind} (h : a < 36028797018963968) : bin P .shl t (i64 a) (.int k' 8) = some (i64 (a * 256)) := by
  rw [bin_shl (by omega), show min (8 : Int).toNat IntKind.i64.bits = 8 from rfl, show (2 : Int) ^ 8 = 256 from rfl]
  congr 2
  rw [wrap64 (by omega)]
  omega
theorem or8 {a b : Nat} (ha : a < 36028797018963968) (hb : b < 256) : bin P .or t (i64 (a * 256)) (i64 b) = some (i64 (a * 256 + b)) := by
  rw [bin_or]
  congr 2
  rw [BitVec.toNat_or]
  have e1 : (BitVec.ofInt IntKind.i64.bits ((a * 256 : Nat) : Int)).toNat = a * 256 := by
    show (BitVec.ofInt 64 _).toNat = _
    rw [BitVec.toNat_ofInt]; omega
  have e2 : (BitVec.ofInt IntKind.i64.bits (b : Int)).toNat = b := by
    show (BitVec.ofInt 64 _).toNat = _
    rw [BitVec.toNat_ofInt]; omega
  rw [e1, e2]
  have e3 : a * 256 ||| b = a * 256 + b := by
    have := Nat.two_pow_add_eq_or_of_lt (i := 8) (b := b) (by omega) a
    rw [show 2 ^ 8 * a = a * 256 by omega] at this
    exact this.symm
  rw [e3, wrap64 (by omega)]
theorem shl1 {k : Nat} (h : k < 8) : bin P .shl t (.int .u8 1) (i64 k) = some (u8 (2 ^ k)) := by
  have hq8 : k = 0 ∨ k = 1 ∨ k = 2 ∨ k = 3 ∨ k = 4 ∨ k = 5 ∨ k = 6 ∨ k = 7 := by omega
  rcases hq8 with h | h | h | h | h | h | h | h <;> (rw [h]; rfl)
end
end Go.AM
namespace Go.AM
def Dsk.pg (D : Dsk) (n : Nat) : List UInt8 := D.look (2 * n) ++ D.look (2 * n + 1)
theorem Dsk.Up.hwrite {D : Dsk} {m t r : Nat} {U : List Int} (h : D.Up (2 * m)) (hm : 2 ≤ m) (hm2 : m ≤ 512) : ∃ D', hwrite D t (r : Int) U = (0, D') ∧ D'.Up (2 * m) ∧ D'.cache.length = D.cache.length + 2 ∧ ∀ n, D'.pg n = if n = t % 2 then sealL 1 (textH t (r : Int) U) else D.pg n := by
  have hl : (textH t (r : Int) U).length ≤ 120 := by rw [textH_len]; decide
  have h2 : t % 2 < m := by omega
  refine ⟨_, h.pwrite (n := t % 2) (k := 1) h2 (by omega) (by decide) (by decide) hl, h.pput h2 hl, ?_, fun n => ?_⟩
  · show ((D.cache ++ [_]) ++ [_]).length = _
    simp
  · unfold Dsk.pg
    rw [look_put, look_put, look_put, look_put]
    by_cases hn : n = t % 2
    · rw [if_pos hn, if_neg (by omega), if_pos (by omega), if_pos (by omega), List.take_append_drop]
    · rw [if_neg hn, if_neg (by omega), if_neg (by omega), if_neg (by omega), if_neg (by omega)]
theorem Dsk.Up.write2 {D : Dsk} {m n k : Nat} {t : List UInt8} (h : D.Up (2 * m)) (hn : n < m) (hm2 : m ≤ 512) (hk : 1 ≤ k) (hk9 : k ≤ 9) (ht : t.length ≤ 120) : ∃ D', D.pwrite (n : Int) (k : Int) t = (0, D') ∧ D'.Up (2 * m) ∧ D'.cache.length = D.cache.length + 2 ∧ ∀ i, D'.pg i = if i = n then sealL k t else D.pg i := by
  refine ⟨_, h.pwrite (n := n) (k := k) hn (by omega) hk hk9 ht, h.pput hn ht, ?_, fun i => ?_⟩
  · show ((D.cache ++ [_]) ++ [_]).length = _
    simp
  · unfold Dsk.pg
    rw [look_put, look_put, look_put, look_put]
    by_cases hi : i = n
    · rw [if_pos hi, if_neg (by omega), if_pos (by omega), if_pos (by omega), List.take_append_drop]
    · rw [if_neg hi, if_neg (by omega), if_neg (by omega), if_neg (by omega), if_neg (by omega)]
theorem Dsk.Up.barrier2 {D : Dsk} {m : Nat} (h : D.Up (2 * m)) : ∃ D', D.barrier = (0, D') ∧ D'.Up (2 * m) ∧ D'.cache = [] ∧ ∀ n, n < m → D'.pg n = D.pg n := by
  refine ⟨_, h.barrier, h.flush, rfl, fun n hn => ?_⟩
  unfold Dsk.pg
  rw [look_flush h.ok (by rw [h.n]; omega), look_flush h.ok (by rw [h.n]; omega)]
theorem Dsk.Up.format {D : Dsk} {m : Nat} (h : D.Up (2 * m)) (hm : 4 ≤ m) (hm2 : m ≤ 512) : ∃ D', D.format = (0, D') ∧ D'.Up (2 * m) ∧ D'.cache = [] ∧ ∀ n, n < m → D'.pg n = if n = 1 then sealL 1 (textH 1 0 [0, 1]) else D.pg n := by
  obtain ⟨D2, e2, u2, c2, p2⟩ := h.hwrite (t := 1) (r := 0) (U := [0, 1]) (by omega) hm2
  obtain ⟨D3, e3, u3, c3, p3⟩ := u2.barrier2
  refine ⟨D3, ?_, u3, c3, fun n hn => ?_⟩
  · unfold Dsk.format
    have hn := h.n
    rw [show ((0 : Nat) : Int) = 0 from rfl] at e2
    rw [if_neg (by omega), e2]
    dsimp only
    rw [if_neg (by simp), e3]
  · rw [p3 n hn, p2 n]
    rfl
def pagesI (m : Nat) : List Int := (List.range m).map fun (n : Nat) => (n : Int)
theorem pagesI_mem {m : Nat} {x : Int} : x ∈ pagesI m ↔ 0 ≤ x ∧ x < m := by
  unfold pagesI
  constructor
  · intro h
    obtain ⟨j, hj, rfl⟩ := List.mem_map.1 h
    have := List.mem_range.1 hj
    omega
  · intro h
    exact List.mem_map.2 ⟨x.toNat, List.mem_range.2 (by omega), by omega⟩
def frs (j : Nat) : List Int := (List.range j).map fun (n : Nat) => ((n + 2 : Nat) : Int)
theorem frs_succ (j : Nat) : frs (j + 1) = frs j ++ [((j + 2 : Nat) : Int)] := by
  unfold frs
  rw [List.range_succ, List.map_append]; rfl
theorem frs_len (j : Nat) : (frs j).length = j := by simp [frs]
theorem frs_mem {j : Nat} {x : Int} : x ∈ frs j ↔ 2 ≤ x ∧ x < j + 2 := by
  unfold frs
  constructor
  · intro h
    obtain ⟨i, hi, rfl⟩ := List.mem_map.1 h
    have := List.mem_range.1 hi
    omega
  · intro h
    exact List.mem_map.2 ⟨(x - 2).toNat, List.mem_range.2 (by omega), by omega⟩
theorem frs_take {i j : Nat} (h : i ≤ j) : (frs j).take i = frs i := by
  unfold frs
  rw [← List.map_take, List.take_range, Nat.min_eq_left h]
theorem alloc_frs {G : Pgr} {j m : Nat} (hd : G.down = false) (hu : G.used = [0, 1]) (hf : G.fresh = frs j) (hj : j + 2 < m) : G.alloc m = (((j + 2 : Nat) : Int), 0, { G with fresh := frs (j + 1) }) := by
  unfold Pgr.alloc
  rw [if_neg (by rw [hd]; decide), hu, hf]
  have e : (List.range m).find? (fun (n : Nat) => !decide ((n : Int) ∈ ([0, 1] : List Int)) && !decide ((n : Int) ∈ frs j)) = some (j + 2) := by
    rw [List.find?_range_eq_some]
    refine ⟨?_, List.mem_range.2 hj, fun i hi => ?_⟩
    · simp only [frs_mem]
      simp
      omega
    · simp only [frs_mem]
      simp
      omega
  rw [e]
  dsimp only
  rw [frs_succ]
theorem alloc_full {G : Pgr} {j m : Nat} (hd : G.down = false) (hu : G.used = [0, 1]) (hf : G.fresh = frs j) (hj : m ≤ j + 2) : G.alloc m = (0, 6, G) := by
  unfold Pgr.alloc
  rw [if_neg (by rw [hd]; decide)]
  have e : (List.range m).find? (fun (n : Nat) => !decide ((n : Int) ∈ G.used) && !decide ((n : Int) ∈ G.fresh)) = none := by
    rw [List.find?_eq_none]
    intro n hn
    have := List.mem_range.1 hn
    rw [hu, hf]
    simp only [frs_mem]
    simp
    omega
  rw [e]
theorem told0 {G : Pgr} : G.told 0 = G := by
  unfold Pgr.told
  cases G
  simp
theorem Dsk.Up.gwrite {D : Dsk} {G : Pgr} {m n k : Nat} {t : List UInt8} (h : D.Up (2 * m)) (hd : G.down = false) (hn : n < m) (hf : (n : Int) ∈ G.fresh) (hm2 : m ≤ 512) (hk : 1 ≤ k) (hk9 : k ≤ 9) (ht : t.length ≤ 120) :
    ∃ D', G.write D (n : Int) (k : Int) t = (0, G, D') ∧ D'.Up (2 * m) ∧ D'.cache.length = D.cache.length + 2 ∧ ∀ i, D'.pg i = if i = n then sealL k t else D.pg i := by
  obtain ⟨D', e, u, c, p⟩ := h.write2 (n := n) (k := k) hn hm2 hk hk9 ht
  refine ⟨D', ?_, u, c, p⟩
  unfold Pgr.write
  rw [if_neg (by rw [hd]; decide), if_neg (by simpa using hf), e]
  dsimp only
  rw [told0]
end Go.AM
