/-
  Facts of the abstract evaluator and of the functions that the law reaches, part 2. Conditions: none.
-/
import Derived.Test.YtmoonbjbllkdoaaGreatDoorG1CatSaves
set_option linter.unusedVariables false
set_option linter.unusedSimpArgs false
set_option linter.unnecessarySimpa false
set_option exponentiation.threshold 200000
set_option maxRecDepth 100000
namespace Go.AM
variable {P : Program} {t : TypeId} {a n : Nat} {k : IntKind}
theorem lsubL (h : a ≤ @OfNat.ofNat Nat n (instOfNatNat n) ∧ @OfNat.ofNat Nat n (instOfNatNat n) < 9223372036854775808) : bin P .sub t (.int .i64 (@OfNat.ofNat Int n instOfNat)) (i64 a) = some (i64 (@OfNat.ofNat Nat n (instOfNatNat n) - a)) := subN h
theorem laddL (h : @OfNat.ofNat Nat n (instOfNatNat n) + a < 9223372036854775808) : bin P .add t (.int .i64 (@OfNat.ofNat Int n instOfNat)) (i64 a) = some (i64 (@OfNat.ofNat Nat n (instOfNatNat n) + a)) := addN h
instance (priority := 900) : PrimC (bin P .add t (.int .i64 (no_index (@OfNat.ofNat Int n instOfNat))) (i64 a)) (@OfNat.ofNat Nat n (instOfNatNat n) + a < 9223372036854775808) (i64 (@OfNat.ofNat Nat n (instOfNatNat n) + a)) := ⟨laddL⟩
instance (priority := 900) : PrimC (bin P .sub t (.int .i64 (no_index (@OfNat.ofNat Int n instOfNat))) (i64 a)) (a ≤ @OfNat.ofNat Nat n (instOfNatNat n) ∧ @OfNat.ofNat Nat n (instOfNatNat n) < 9223372036854775808) (i64 (@OfNat.ofNat Nat n (instOfNatNat n) - a)) := ⟨lsubL⟩
end Go.AM
namespace Go.AM
variable {P : Program}
theorem ScN.cvS {t d e : TypeId} {H : AH} {v : Value} {n : Nat} {ds : List Nat} [h1 : Und P t (.slice e)] [h2 : Und P d .string] [h3 : Und P e (.int .u8)] (h : ScN H v n 1 (ds.map u8)) : cvS P t d H v = some (str (ds.map fun n => UInt8.ofNat n)) := by
  have hl := h.length
  rw [List.length_map, Nat.mul_one] at hl
  unfold AM.cvS
  rw [h1.eq, h2.eq]
  have hc := h.cells
  rcases h with ⟨rfl, hn, hcs⟩ | ⟨b, off, cap, rfl, hc', hl', hx⟩
  · have : ds = [] := by simpa using hcs
    subst this
    simp only [h3.eq, sliceCells]
    rfl
  · simp only [h3.eq, sl]
    have hc2 : sliceCells 1 H (.slice (some ⟨b, off, none⟩) n cap) n = some (ds.map u8) := hc
    rw [hc2, Option.bind_some, bytesOf_map]; rfl
end Go.AM
namespace Go.AM
variable {P : Program}
theorem slc_strT {t : TypeId} {l : List UInt8} {k : IntKind} {i : Nat} [h : Und P t .string] (hi : i ≤ l.length) : slc P t (str l) none (some (.int k (i : Int))) = some (str (l.take i)) := by
  unfold slc; rw [h.eq]
  have : ByteArray.size ⟨l.toArray⟩ = l.length := rfl
  simp only [this, intOr, Option.bind_some]
  rw [if_pos ⟨by omega, by omega, by omega⟩]
  congr 2
  simp [ByteArray.extract, ByteArray.copySlice]
theorem neq_str {t : TypeId} {a b : List UInt8} : bin P .neq t (str a) (str b) = some (.bool (decide (a ≠ b))) := by
  have e : binOp .neq t (str a) (str b) = .pure (.bool (decide (a ≠ b))) := by
    show Op.stringOp .neq _ _ = _
    unfold Op.stringOp
    simp only [toList_str]
    show Sem.pure _ = _
    congr 2
    exact Bool.eq_iff_iff.mpr (by simp)
  unfold bin
  rw [if_pos ⟨rfl, rfl, rfl⟩, e]
  rfl
instance {t : TypeId} {a b : List UInt8} : PrimEq (bin P .neq t (str a) (str b)) (.bool (decide (a ≠ b))) := ⟨neq_str⟩
instance (priority := 2000) {t : TypeId} {a : List UInt8} : PrimEq (bin P .neq t (str a) (str a)) (.bool false) := ⟨by rw [neq_str, decide_eq_false (fun h => h rfl)]⟩
end Go.AM
namespace Go.AM
variable {P : Program} {R : Type}
section
variable {t : TypeId} {a b : List UInt8}
end
class FL (B : outParam AH) (v : Value) {α : outParam Type} (f : outParam (α → Value)) (l : outParam (List α)) : Prop where
  sc : ScN B v l.length 1 (l.map f)
section
variable {α : Type} {f : α → Value} {l : List α} {B B0 H0 H : AH} {v w : Value} {t u e u' : TypeId} {z : Value} {sz by_ : Nat}
theorem FL.mono {B' : AH} (hm : Mo B B') (h : FL B v f l) : FL B' v f l := ⟨h.sc.mono hm⟩
instance (priority := low) fl_len [hE : Elt P t e z sz] [h : FL B v f l] : PrimEq (lenV P t v) (i64 l.length) := ⟨h.sc.len hE.U⟩
theorem Ev.ixF {g : Nat → Nat → Value → Option R} {Q : R → Prop} {k : IntKind} {i : Int} {a : α} [hE : Elt P t e z sz] [h : FL B v f l] (j : Nat) (hi : i = (j : Int)) (ha : l[j]? = some a)
    (hk : ∀ p, LdB P e p B (f a) → Ev (fun k n => g k n p) Q) : Ev (fun k' n => (ixA P t v (.int k i)).bind (g k' n)) Q :=
  Ev.ixN h.sc j hi (List.getElem?_eq_some_iff.mp ha).1 (by rw [List.getElem?_map, ha]; rfl) hk
end
end Go.AM
namespace Go.AM
variable {P : Program} {R : Type}
section
variable {B B0 H0 H : AH} {v : Value} {cs : List Value} {e : TypeId}
end
theorem St.flz {α : Type} {f : α → Value} {l : List α} {B B0 H0 H : AH} {L : List (Nat × Blk)} {b cap : Nat} {e : TypeId} {kd : BK} (hS : St H0 B0 B ((b, ⟨l.map f, e, kd⟩) :: L) H) (hc : l.length ≤ cap) : ∃ B', MoC B B' ∧ FL B' (sl b 0 l.length cap) f l ∧ St H0 B0 B' L H := by
  obtain ⟨B', h1, h2, h3⟩ := hS.freeze
  refine ⟨B', ⟨h1⟩, ⟨.inr ⟨b, 0, cap, rfl, hc, by simp, .inr ⟨_, h2, ?_⟩⟩⟩, h3⟩
  unfold rdN
  rw [if_pos (by simp), List.drop_zero, List.take_of_length_le (by simp)]
theorem min_i64 {a b : Nat} : fold1 minV [i64 a, i64 b] = some (i64 (min a b)) := by
  show some (Value.int .i64 (if (b : Int) < a then (b : Int) else a)) = _
  congr 2
  split <;> omega
end Go.AM
namespace Go.AM
variable {P : Program} {R : Type}
theorem slc_own {t e : TypeId} {z : Value} {sz b m i : Nat} [hE : Elt P t e z sz] (h : i ≤ m) : slc P t (sl b 0 m m) (some (i64 i)) none = some (sl b (if m = i then 0 else i) (m - i) (m - i)) := by
  unfold slc sl
  rw [hE.U]; simp only [intOr, Option.bind_some]
  rw [if_pos ⟨hE.I, by omega, by omega, by omega⟩, hE.S]
  simp
end Go.AM
namespace Go.AM
structure Dsk where
  n : Nat
  bytes : List UInt8
  cache : List (Nat × List UInt8)
  fuse : Int
  down : Bool
structure Dsk.OK (D : Dsk) : Prop where
  n1 : 1 ≤ D.n
  n2 : D.n ≤ 1024
  len : D.bytes.length = 64 * D.n
  ca : ∀ p ∈ D.cache, p.1 < D.n ∧ p.2.length = 64
  fu : -1 ≤ D.fuse ∧ D.fuse < 9223372036854775808
def layB (bs : List UInt8) (a : Nat) (s : List UInt8) : List UInt8 := bs.take (64 * a) ++ (s ++ bs.drop (64 * a + s.length))
def Dsk.sector (D : Dsk) (i : Nat) : List UInt8 := (D.bytes.drop (64 * i)).take 64
def Dsk.new (n : Nat) : Dsk := ⟨n, List.replicate (64 * n) 0, [], -1, false⟩
def Dsk.act (D : Dsk) (f : Dsk → Dsk) : Int × Dsk := if D.fuse = 0 then (7, { D with down := true }) else (0, f { D with fuse := max (D.fuse - 1) (-1) })
def Dsk.put (i : Nat) (s : List UInt8) (D : Dsk) : Dsk := { D with cache := D.cache ++ [(i, s)] }
def Dsk.write (D : Dsk) (i : Int) (s : List UInt8) : Int × Dsk :=
  if D.down = true then (7, D) else if i < 0 ∨ (D.n : Int) ≤ i ∨ s.length ≠ 64 then (1, D) else D.act (Dsk.put i.toNat s)
def find (l : List (Nat × List UInt8)) (i : Nat) : Option (List UInt8) := (l.reverse.find? fun p => p.1 == i).map (·.2)
def Dsk.look (D : Dsk) (i : Nat) : List UInt8 := (find D.cache i).getD (D.sector i)
def Dsk.read (D : Dsk) (i : Int) : List UInt8 × Int := if D.down = true then ([], 7) else if i < 0 ∨ (D.n : Int) ≤ i then ([], 1) else (D.look i.toNat, 0)
def layAll (l : List (Nat × List UInt8)) (bs : List UInt8) : List UInt8 := l.foldl (fun bs p => layB bs p.1 p.2) bs
def Dsk.flush (D : Dsk) : Dsk := { D with bytes := layAll D.cache D.bytes, cache := [] }
def Dsk.barrier (D : Dsk) : Int × Dsk := if D.down = true then (7, D) else D.act Dsk.flush
theorem layB_len {bs : List UInt8} {a : Nat} {s : List UInt8} (h : 64 * a + s.length ≤ bs.length) : (layB bs a s).length = bs.length := by
  unfold layB
  simp only [List.length_append, List.length_take, List.length_drop]
  omega
theorem layAll_len : ∀ (l : List (Nat × List UInt8)) (bs : List UInt8) (n : Nat), bs.length = 64 * n → (∀ p ∈ l, p.1 < n ∧ p.2.length = 64) → (layAll l bs).length = 64 * n
  | [], bs, n, h, _ => h
  | p :: l, bs, n, h, hp => by
    have h1 := hp p (by simp)
    exact layAll_len l (layB bs p.1 p.2) n (by rw [layB_len (by omega)]; exact h) fun q hq => hp q (by simp [hq])
theorem Dsk.ok_new {n : Nat} (h1 : 1 ≤ n) (h2 : n ≤ 1024) : (Dsk.new n).OK := ⟨h1, h2, by simp [Dsk.new], (fun p h => by cases h), by simp [Dsk.new]⟩
theorem Dsk.OK.actD {D : Dsk} (h : D.OK) : Dsk.OK { D with fuse := max (D.fuse - 1) (-1) } := ⟨h.n1, h.n2, h.len, h.ca, by have := h.fu; show -1 ≤ max (D.fuse - 1) (-1) ∧ max (D.fuse - 1) (-1) < _; omega⟩
theorem Dsk.OK.act {D : Dsk} (h : D.OK) {f : Dsk → Dsk} (hf : ∀ E : Dsk, E.n = D.n → E.bytes = D.bytes → E.cache = D.cache → E.OK → (f E).OK) : (D.act f).2.OK := by
  unfold Dsk.act
  split
  · exact ⟨h.n1, h.n2, h.len, h.ca, h.fu⟩
  · exact hf _ rfl rfl rfl h.actD
theorem Dsk.OK.put {D : Dsk} (h : D.OK) {i : Nat} {s : List UInt8} (hi : i < D.n) (hs : s.length = 64) : (D.put i s).OK := by
  refine ⟨h.n1, h.n2, h.len, fun p hp => ?_, h.fu⟩
  rcases List.mem_append.1 hp with hp | hp
  · exact h.ca p hp
  · simp at hp; subst hp; exact ⟨hi, hs⟩
theorem Dsk.OK.flush {D : Dsk} (h : D.OK) : D.flush.OK := ⟨h.n1, h.n2, layAll_len _ _ _ h.len h.ca, (fun p hp => by cases hp), h.fu⟩
theorem Dsk.OK.write {D : Dsk} (h : D.OK) (i : Int) (s : List UInt8) : (D.write i s).2.OK := by
  unfold Dsk.write
  split
  · exact h
  · split
    · exact h
    · rename_i hc
      have h1 : 0 ≤ i := by omega
      have h2 : i < D.n := by omega
      exact h.act fun E e1 _ _ hE => hE.put (by rw [e1]; omega) (by omega)
theorem Dsk.OK.barrier {D : Dsk} (h : D.OK) : D.barrier.2.OK := by
  unfold Dsk.barrier
  split
  · exact h
  · exact h.act fun E _ _ _ hE => hE.flush
instance (priority := high) {R : Type} {x : Nat → Nat → Option R} {p : Prop} : Step (fun k n => aChk (Value.bool true = .bool false → p) (x k n)) x := ⟨fun h2 => Ev.chk (fun h => by cases h) h2⟩
instance (priority := high) {R α : Type} {x : Nat → Nat → Option R} {b : Bool} {E : Option α} {v : α} [h : PrimEq E v] : Step (fun k n => aChk (Value.bool b = .bool b → E = some v) (x k n)) x := ⟨fun h2 => Ev.chk (fun _ => h.eq) h2⟩
theorem perm22 {α : Type} (a b c d : α) : [a, b, c, d].Perm [c, d, a, b] := List.perm_append_comm (l₁ := [a, b]) (l₂ := [c, d])
theorem b2_id (x : Option (Value × AH)) : (b2 x fun v h => some (v, h)) = x := by
  cases x <;> rfl
instance {P : Program} {t e : TypeId} {d o : Nat} [h : Und P t (.pointer e)] : PrimEq (bin P .eql t (ptr d o) (.pointer none)) (.bool false) := ⟨by
  unfold bin ptr
  rw [if_neg (by simp [flat1])]
  simp only [h.eq, Option.bind_some, nilEq]
  rfl⟩
instance {P : Program} {t e : TypeId} {d o : Nat} [h : Und P t (.pointer e)] : PrimEq (bin P .neq t (ptr d o) (.pointer none)) (.bool true) := ⟨by
  unfold bin ptr
  rw [if_neg (by simp [flat1])]
  simp only [h.eq, Option.bind_some, nilEq]
  rfl⟩
theorem max_int {k : IntKind} {a b : Int} : fold1 maxV [.int k a, .int k b] = some (.int k (max a b)) := by
  show some (Value.int k (if b > a then b else a)) = _
  congr 2
  omega
theorem min_int {k : IntKind} {a b : Int} : fold1 minV [.int k a, .int k b] = some (.int k (min a b)) := by
  show some (Value.int k (if b < a then b else a)) = _
  congr 2
  omega
section
variable {P : Program} {R : Type} {H0 B0 B H : AH} {L L' : List (Nat × Blk)}
theorem Ev.setSt {b c d : Nat} {T : List Value} {el : TypeId} {f key : Nat} {g : Nat → Nat → AH → Option R} {Q : R → Prop} (hS : St H0 B0 B L H) (hm : (b, ⟨.int .i64 (c : Int) :: T, el, .loop f key⟩) ∈ L)
    (hu : Upd b ⟨.int .i64 (c : Int) :: T, el, .loop f key⟩ ⟨.int .i64 (d : Int) :: T, el, .loop f key⟩ L L') (h : ∀ H', St H0 B0 B L' H' → Ev (fun k n => g k n H') Q) : Ev (fun k n => (AM.setSt H b c d).bind (g k n)) Q := by
  refine Ev.prim ?_ (h _ (hS.put (cs := .int .i64 (d : Int) :: T) hu))
  unfold AM.setSt
  rw [hS.get hm]
  simp only [Option.bind_some, if_true]
theorem Ev.rgBack {b : Nat} {e : EX} {T : List Value} {el : TypeId} {f key : Nat} {K : Nat → Nat → EX → AH → Option R} {Q : R → Prop} (hS : St H0 B0 B ((b, ⟨.int .i64 (xSt e : Nat) :: T, el, .loop f key⟩) :: L) H)
    (h : ∀ H', St H0 B0 B L H' → Ev (fun k n => K k n e H') Q) : Ev (fun k n => AM.rgBack b H (K k n)) Q := by
  refine Ev.eq (fun k n => ?_) (h _ hS.kill)
  unfold AM.rgBack getSt
  rw [hS.get (.head _)]
  simp only [Option.bind_some]
  cases e <;> rfl
end
theorem take_ex {α : Type} {l : List α} {m : Nat} (h : m < l.length) : ∃ x, l[m]? = some x ∧ l.take (m + 1) = l.take m ++ [x] := by
  refine ⟨l[m], List.getElem?_eq_getElem h, ?_⟩
  rw [List.take_add_one, List.getElem?_eq_getElem h]
  rfl
theorem find_snoc (l : List (Nat × List UInt8)) (a : Nat) (s : List UInt8) (i : Nat) : find (l ++ [(a, s)]) i = if a = i then some s else find l i := by
  unfold find
  simp only [List.reverse_append, List.reverse_cons, List.reverse_nil, List.nil_append, List.cons_append, List.find?_cons]
  by_cases h : a = i
  · simp [h]
  · rw [if_neg h, show (a == i) = false by simpa using h]
variable {P : Program} {R : Type} {H0 B0 B H : AH} {L : List (Nat × Blk)}
def GRS (e : TypeId) (sz : Nat) (v : Value) (n : Nat) (cs : List Value) (Lx : List (Nat × Blk)) : Prop :=
  (n = 0 ∧ cs = [] ∧ (v = .slice none 0 0 ∨ ∃ b off, v = sl b off 0 0) ∧ Lx = []) ∨
  (n ≠ 0 ∧ cs.length = n * sz ∧ ∃ b kd cap, v = sl b 0 n cap ∧ ((kd = .grow ∨ kd = .buf) ∧ cap ≠ 0 ∧ n ≤ cap ∨ kd = .fix ∧ cap = n) ∧ Lx = [(b, ⟨cs, e, kd⟩)])
section
variable {e : TypeId} {sz n : Nat} {v : Value} {cs : List Value} {Lx : List (Nat × Blk)}
theorem GRS.nil : GRS e sz (.slice none 0 0) 0 [] [] := .inl ⟨rfl, rfl, .inl rfl, rfl⟩
theorem GRS.cell (h : GRS e sz v n cs Lx) : IsCell v := by
  rcases h with ⟨_, _, rfl | ⟨b, off, rfl⟩, _⟩ | ⟨_, _, b, kd, cap, rfl, _, _⟩ <;> exact inferInstance
theorem GRS.len {t e' : TypeId} (hU : P.underlying t = some (.slice e')) (h : GRS e sz v n cs Lx) : lenV P t v = some (i64 n) := by
  rcases h with ⟨rfl, _, rfl | ⟨b, off, rfl⟩, _⟩ | ⟨_, _, b, kd, cap, rfl, _⟩ <;> exact lenV_sl hU
theorem GRS.length (h : GRS e sz v n cs Lx) : cs.length = n * sz := by
  rcases h with ⟨rfl, rfl, _⟩ | ⟨_, h, _⟩
  · simp
  · exact h
theorem GRS.acc (h : GRS e sz v n cs Lx) (hS : St H0 B0 B (Lx ++ L) H) : GAcc e sz H0 B0 B L H v n cs := by
  rcases h with ⟨rfl, rfl, hv, rfl⟩ | ⟨hne, hl, b, kd, cap, hv, hk, rfl⟩
  · exact .inl ⟨rfl, rfl, hv, hS⟩
  · exact .inr ⟨hne, hl, b, kd, cap, hv, hk, hS⟩
theorem GAcc.grs (h : GAcc e sz H0 B0 B L H v n cs) : ∃ Lx, GRS e sz v n cs Lx ∧ St H0 B0 B (Lx ++ L) H := by
  rcases h with ⟨h1, h2, hv, hS⟩ | ⟨hn, hl, b, kd, cap, hv, hk, hS⟩
  · exact ⟨[], .inl ⟨h1, h2, hv, rfl⟩, hS⟩
  · exact ⟨[(b, ⟨cs, e, kd⟩)], .inr ⟨hn, hl, b, kd, cap, hv, hk, rfl⟩, hS⟩
theorem GRS.now {Ly : List (Nat × Blk)} (h : GRS e sz v n cs Lx) (hS : St H0 B0 B Ly H) (hsub : ∀ p ∈ Lx, p ∈ Ly) : ScN H v n sz cs := by
  rcases h with ⟨rfl, rfl, rfl | ⟨b, off, rfl⟩, _⟩ | ⟨hn, hl, b, kd, cap, rfl, hk, rfl⟩
  · exact .inl ⟨rfl, rfl, rfl⟩
  · exact .inr ⟨b, off, 0, rfl, Nat.le_refl _, by simp, .inl rfl⟩
  · refine .inr ⟨b, 0, cap, rfl, by rcases hk with ⟨_, _, h⟩ | ⟨_, h⟩ <;> omega, hl, .inr ⟨⟨cs, e, kd⟩, hS.get (hsub _ (by simp)), ?_⟩⟩
    unfold rdN
    rw [if_pos (by simp only; omega), List.drop_zero, List.take_of_length_le (by simp only; omega)]
end
theorem ScN.ldAt {P : Program} {t e : TypeId} {z : List Value} {sz by_ : Nat} [hE : EltS P t e z sz by_] {H : AH} {v : Value} {n i : Nat} {cs : List Value} {k : IntKind} (h : ScN H v n sz cs) (hi : i < n) (ha : aggT P e = some true) :
    ∃ p, ixA P t v (.int k (i : Int)) = some p ∧ ld P e H p = some (.agg ((cs.drop (i * sz)).take sz).toArray) := by
  rcases h with ⟨_, h, _⟩ | ⟨b, off, cap, rfl, hc, hl, h⟩
  · omega
  · rcases h with h | ⟨K, h1, h2⟩
    · omega
    refine ⟨ptr b (off + i * sz), ?_, ?_⟩
    · unfold ixA sl
      rw [hE.U]
      simp only
      rw [if_pos ⟨hE.I, by omega, by omega⟩, hE.S]
      simp
    · unfold AM.ld ldA AM.ptr
      rw [ha]
      simp only
      rw [h1, Option.bind_some, hE.S]
      obtain ⟨h3, h4⟩ := rdN_some h2
      have hle : i * sz + sz ≤ n * sz := by rw [← Nat.succ_mul]; exact Nat.mul_le_mul_right _ hi
      unfold rdN
      rw [if_pos (by omega), Option.map_some]
      congr 2
      conv => rhs; rw [h4]
      rw [List.drop_take, List.take_take, List.drop_drop, Nat.min_eq_left (by omega)]
def caCells (l : List (Nat × List UInt8)) : List Value := l.flatMap fun p => [i64 p.1, str p.2]
theorem caCells_at {l : List (Nat × List UInt8)} {i a : Nat} {s : List UInt8} (h : l[i]? = some (a, s)) : ((caCells l).drop (i * 2)).take 2 = [i64 a, str s] := by
  induction l generalizing i with
  | nil => simp at h
  | cons p l ih =>
    cases i with
    | zero => simp at h; subst h; rfl
    | succ i =>
      rw [show (i + 1) * 2 = (i * 2 + 1) + 1 by omega]
      exact ih (by simpa using h)
theorem lay_at {l : List (Nat × List UInt8)} {i a : Nat} {s bs : List UInt8} (h : l[i]? = some (a, s)) : layAll (l.take (i + 1)) bs = layB (layAll (l.take i) bs) a s := by
  unfold layAll
  rw [List.take_add_one, h]
  simp
abbrev byts (l : List UInt8) : List Value := (l.map UInt8.toNat).map u8
theorem byts_len (l : List UInt8) : (byts l).length = l.length := by simp
def IsDisk (tD tB tW : TypeId) (p : Value) (D : Dsk) (Ls : List (Nat × Blk)) : Prop :=
  ∃ d bb cv Lc, p = ptr d 0 ∧ GRS tW 2 cv D.cache.length (caCells D.cache) Lc ∧
    Ls = (d, ⟨[sl bb 0 (64 * D.n) (64 * D.n), cv, .int .i64 D.fuse, .bool D.down], tD, .fix⟩) :: (bb, ⟨byts D.bytes, tB, .fix⟩) :: Lc
section
variable {t u e : TypeId} {z : Value} {sz : Nat}
theorem byts_back (l : List UInt8) : (l.map UInt8.toNat).map (fun n => UInt8.ofNat n) = l := by
  rw [List.map_map]
  conv => rhs; rw [← List.map_id l]
  exact List.map_congr_left fun x _ => by simp
theorem all_byts (l : List UInt8) : (byts l).all isCell = true := by simp [isCell]
theorem byts_take (l : List UInt8) (n : Nat) : byts (l.take n) = (byts l).take n := by simp [List.map_take]
theorem byts_drop (l : List UInt8) (n : Nat) : byts (l.drop n) = (byts l).drop n := by simp [List.map_drop]
theorem byts_app (a b : List UInt8) : byts (a ++ b) = byts a ++ byts b := by simp
theorem byts_rep (n : Nat) : byts (List.replicate n 0) = List.replicate n (.int .u8 0) := by simp
theorem byts_lay (bs s : List UInt8) (a : Nat) : byts (layB bs a s) = spl (byts bs) (64 * a) (byts s) := by
  unfold layB spl
  rw [byts_app, byts_app, byts_take, byts_drop, byts_len]
theorem cellsOf_str (l : List UInt8) : cellsOfBytes ⟨l.toArray⟩ = byts l := by
  unfold cellsOfBytes
  simp
theorem upd_same_list {b : Nat} {K : Blk} {L L' : List (Nat × Blk)} (h : Upd b K K L L') : L' = L := by
  generalize hK : K = K' at h
  induction h with
  | head => rw [← hK]
  | tail x _ ih => rw [ih]
theorem Ev.cpyStr {L L' : List (Nat × Blk)} {b off n cap : Nat} {cs : List Value} {kd : BK} {l : List UInt8} {g : Nat → Nat → Value → AH → Option R} {Q : R → Prop} [hE : Elt P t e z sz] (hS : St H0 B0 B L H) (hm : (b, ⟨cs, e, kd⟩) ∈ L)
    (hn : l.length ≤ n) (ho : off + l.length ≤ cs.length) (hk : kd.wr = true) (hu : Upd b ⟨cs, e, kd⟩ ⟨spl cs off (byts l), e, kd⟩ L L') (hq : ∀ H', St H0 B0 B L' H' → Ev (fun k m => g k m (i64 l.length) H') Q) :
    Ev (fun k m => Go.AM.b2 (Go.AM.cpy P t H (sl b off n cap) (str l)) (g k m)) Q := by
  have hmin : min l.length n = l.length := Nat.min_eq_left hn
  have e1 : sliceCells 1 H (str l) l.length = some (byts l) := by
    show (if l.length ≤ l.length then some ((cellsOfBytes ⟨l.toArray⟩).take l.length) else none) = _
    rw [if_pos (Nat.le_refl _), cellsOf_str, List.take_of_length_le (by rw [byts_len]; exact Nat.le_refl _)]
  have e2 : lenOf (str l) = some l.length := rfl
  by_cases h0 : l.length = 0
  · have : l = [] := List.length_eq_zero_iff.mp h0
    subst this
    have hsp : spl cs off (byts []) = cs := by simp [spl]
    rw [hsp] at hu
    have hLL := upd_same_list hu
    subst hLL
    refine Ev.prim2 ?_ (hq H hS)
    unfold Go.AM.cpy sl
    rw [hE.U]; simp only
    rw [hE.I, if_neg (by simp), e2, Option.bind_some, hmin, hE.S, e1, Option.bind_some, if_pos h0]; rfl
  · refine Ev.prim2 ?_ (hq _ (hS.put (cs := spl cs off (byts l)) hu))
    unfold Go.AM.cpy sl
    rw [hE.U]; simp only
    rw [hE.I, if_neg (by simp), e2, Option.bind_some, hmin, hE.S, e1, Option.bind_some, if_neg h0, hS.get hm, Option.bind_some]
    simp only
    rw [if_pos ⟨hk, by rw [byts_len]; omega, all_byts l⟩]
theorem slc_own2 [hE : Elt P t e z sz] {b m i j : Nat} (h : i ≤ j ∧ j ≤ m) : slc P t (sl b 0 m m) (some (i64 i)) (some (i64 j)) = some (sl b (if m = i then 0 else i) (j - i) (m - i)) := by
  unfold slc sl
  rw [hE.U]; simp only [intOr, Option.bind_some]
  rw [if_pos ⟨hE.I, by omega, by omega, by omega⟩, hE.S]
  simp
theorem cvS_part {d : TypeId} [h1 : Und P t (.slice e)] [h2 : Und P d .string] [h3 : Und P e (.int .u8)] {L : List (Nat × Blk)} {b off n cap : Nat} {bs : List UInt8} {kd : BK} (hS : St H0 B0 B L H) (hm : (b, ⟨byts bs, e, kd⟩) ∈ L) (hn : n ≤ cap) (ho : off + n ≤ bs.length) :
    cvS P t d H (sl b off n cap) = some (str ((bs.drop off).take n)) := by
  have h : ScN H (sl b off n cap) n 1 ((((bs.drop off).take n).map UInt8.toNat).map u8) := by
    refine .inr ⟨b, off, cap, rfl, hn, by simp; omega, .inr ⟨_, hS.get hm, ?_⟩⟩
    unfold rdN
    rw [if_pos (by simp only [byts_len]; omega), Nat.mul_one]
    show some ((byts bs).drop off |>.take n) = some (byts ((bs.drop off).take n))
    rw [byts_take, byts_drop]
  have := h.cvS (P := P) (t := t) (d := d)
  rwa [byts_back] at this
end
end Go.AM
namespace Go.AM
def sec (bs : List UInt8) (j : Nat) : List UInt8 := (bs.drop (64 * j)).take 64
theorem sec_len {bs : List UInt8} {j n : Nat} (h : bs.length = 64 * n) (hj : j < n) : (sec bs j).length = 64 := by
  unfold sec; rw [List.length_take, List.length_drop]; omega
theorem sec_lay {bs s : List UInt8} {a j n : Nat} (h : bs.length = 64 * n) (ha : a < n) (hs : s.length ≤ 64) : sec (layB bs a s) j = if a = j then s ++ (sec bs j).drop s.length else sec bs j := by
  unfold sec layB
  apply List.ext_getElem?
  intro i
  split
  · rename_i he
    subst he
    simp only [List.getElem?_take, List.getElem?_drop, List.getElem?_append, List.length_take, List.length_drop]
    by_cases h1 : i < 64
    · rw [if_pos h1, if_neg (by omega)]
      by_cases h2 : i < s.length
      · rw [if_pos (by omega), if_pos h2]
        congr 1
        omega
      · rw [if_neg (by omega), if_neg h2, if_pos (by omega)]
        congr 1
        omega
    · rw [if_neg h1, if_neg (by omega), if_neg (by omega)]
  · rename_i he
    simp only [List.getElem?_take, List.getElem?_drop, List.getElem?_append, List.length_take, List.length_drop]
    by_cases h1 : i < 64
    · rw [if_pos h1, if_pos h1]
      by_cases h2 : j < a
      · rw [if_pos (by omega), if_pos (by omega)]
      · rw [if_neg (by omega), if_neg (by omega)]
        congr 1
        omega
    · rw [if_neg h1, if_neg h1]
theorem sec_lay64 {bs s : List UInt8} {a j n : Nat} (h : bs.length = 64 * n) (ha : a < n) (hs : s.length = 64) (hj : j < n) : sec (layB bs a s) j = if a = j then s else sec bs j := by
  rw [sec_lay h ha (by omega)]
  split
  · rw [List.drop_of_length_le (by rw [sec_len h hj]; omega), List.append_nil]
  · rfl
theorem layAll_snoc (l : List (Nat × List UInt8)) (p : Nat × List UInt8) (bs : List UInt8) : layAll (l ++ [p]) bs = layB (layAll l bs) p.1 p.2 := by
  unfold layAll; simp
theorem sec_layAll {n j : Nat} (hj : j < n) : ∀ (m : Nat) (l : List (Nat × List UInt8)) (bs : List UInt8), l.length = m → bs.length = 64 * n → (∀ p ∈ l, p.1 < n ∧ p.2.length = 64) → sec (layAll l bs) j = (find l j).getD (sec bs j)
  | 0, l, bs, hm, h, _ => by
    have : l = [] := List.length_eq_zero_iff.1 hm
    subst this
    rfl
  | m + 1, l, bs, hm, h, hp => by
    obtain ⟨⟨a, s⟩, hx, htk⟩ := take_ex (l := l) (m := m) (by omega)
    rw [List.take_of_length_le (by omega)] at htk
    have h1 := hp (a, s) (List.mem_of_getElem? hx)
    have ih := sec_layAll hj m (l.take m) bs (by rw [List.length_take]; omega) h fun p hp' => hp p (List.mem_of_mem_take hp')
    rw [htk, layAll_snoc, find_snoc]
    dsimp only at h1 ⊢
    rw [sec_lay64 (layAll_len _ _ n h fun p hp' => hp p (List.mem_of_mem_take hp')) h1.1 h1.2 hj, ih]
    split <;> rfl
theorem look_flush {D : Dsk} (h : D.OK) {j : Nat} (hj : j < D.n) : D.flush.look j = D.look j := sec_layAll hj _ D.cache D.bytes rfl h.len h.ca
theorem look_len {D : Dsk} (h : D.OK) {j : Nat} (hj : j < D.n) : (D.look j).length = 64 := by
  rw [← look_flush h hj]
  exact sec_len (layAll_len _ _ _ h.len h.ca) hj
structure Dsk.Up (D : Dsk) (n : Nat) : Prop where
  ok : D.OK
  n : D.n = n
  fu : D.fuse = -1
  dn : D.down = false
theorem Dsk.up_new {n : Nat} (h1 : 1 ≤ n) (h2 : n ≤ 1024) : (Dsk.new n).Up n := ⟨Dsk.ok_new h1 h2, rfl, rfl, rfl⟩
theorem Dsk.Up.write {D : Dsk} {n i : Nat} {s : List UInt8} (h : D.Up n) (hi : i < n) (hs : s.length = 64) : D.write (i : Int) s = (0, D.put i s) := by
  obtain ⟨n', bytes, cache, fu, dn⟩ := D
  obtain ⟨h1, h2, h3, h4⟩ := h
  dsimp only at h2 h3 h4
  subst h2 h3 h4
  unfold Dsk.write Dsk.act Dsk.put
  dsimp only
  rw [if_neg (by decide), if_neg (by omega), if_neg (by decide)]
  simp
  rfl
theorem Dsk.Up.put {D : Dsk} {n i : Nat} {s : List UInt8} (h : D.Up n) (hi : i < n) (hs : s.length = 64) : (D.put i s).Up n := ⟨h.ok.put (by rw [h.n]; exact hi) hs, h.n, h.fu, h.dn⟩
theorem Dsk.Up.barrier {D : Dsk} {n : Nat} (h : D.Up n) : D.barrier = (0, D.flush) := by
  obtain ⟨n', bytes, cache, fu, dn⟩ := D
  obtain ⟨h1, h2, h3, h4⟩ := h
  dsimp only at h2 h3 h4
  subst h2 h3 h4
  unfold Dsk.barrier Dsk.act
  dsimp only
  rw [if_neg (by decide), if_neg (by decide)]
  rfl
theorem Dsk.Up.flush {D : Dsk} {n : Nat} (h : D.Up n) : D.flush.Up n := ⟨h.ok.flush, h.n, h.fu, h.dn⟩
end Go.AM
namespace Go.AM
def Dsk.pwrite (D : Dsk) (n kind : Int) (t : List UInt8) : Int × Dsk :=
  if (sealR kind t).2 ≠ 0 ∨ n < 0 ∨ n > 1048576 then (1, D)
  else if (D.write (2 * n) ((sealR kind t).1.take 64)).1 ≠ 0 then D.write (2 * n) ((sealR kind t).1.take 64)
  else (D.write (2 * n) ((sealR kind t).1.take 64)).2.write (2 * n + 1) ((sealR kind t).1.drop 64)
def Dsk.pread (D : Dsk) (n : Int) : Int × List UInt8 × Int :=
  if n < 0 ∨ n > 1048576 then (0, [], 1) else if (D.read (2 * n)).2 ≠ 0 then (0, [], (D.read (2 * n)).2)
  else if (D.read (2 * n + 1)).2 ≠ 0 then (0, [], (D.read (2 * n + 1)).2) else openR ((D.read (2 * n)).1 ++ (D.read (2 * n + 1)).1)
theorem read_len {D : Dsk} (h : D.OK) (i : Int) : (D.read i).1.length ≤ 64 := by
  unfold Dsk.read
  split
  · exact Nat.zero_le _
  · split
    · exact Nat.zero_le _
    · exact Nat.le_of_eq (look_len h (by omega))
theorem write_cache (D : Dsk) (i : Int) (s : List UInt8) : (D.write i s).2.cache.length ≤ D.cache.length + 1 := by
  unfold Dsk.write
  split
  · exact Nat.le_succ _
  · split
    · exact Nat.le_succ _
    · unfold Dsk.act
      split
      · exact Nat.le_succ _
      · show (D.cache ++ [_]).length ≤ _
        rw [List.length_append]; exact Nat.le_refl _
theorem pwrite_ok {D : Dsk} (h : D.OK) (n kind : Int) (t : List UInt8) : (D.pwrite n kind t).2.OK := by
  unfold Dsk.pwrite
  split
  · exact h
  · split
    · exact h.write _ _
    · exact (h.write _ _).write _ _
theorem pwrite_cache (D : Dsk) (n kind : Int) (t : List UInt8) : (D.pwrite n kind t).2.cache.length ≤ D.cache.length + 2 := by
  unfold Dsk.pwrite
  split
  · exact Nat.le_add_right _ _
  · split
    · exact Nat.le_succ_of_le (write_cache _ _ _)
    · have h1 := write_cache D (2 * n) ((sealR kind t).1.take 64)
      have h2 := write_cache (D.write (2 * n) ((sealR kind t).1.take 64)).2 (2 * n + 1) ((sealR kind t).1.drop 64)
      omega
end Go.AM
namespace Go.AM
theorem Ev.mkMap {P : Program} {R : Type} {t : TypeId} {B0 H0 B H : AH} {L : List (Nat × Blk)} {f : Nat → Nat → Value → AH → Option R} {Q : R → Prop} (hS : St H0 B0 B L H)
    (h : ∀ b H', St H0 B0 B ((b, ⟨[], t, .map⟩) :: L) H' → Ev (fun k n => f k n (.map (some b)) H') Q) : Ev (fun k n => Go.AM.b2 (mkM t H) (f k n)) Q :=
  Ev.prim2 rfl (h H.length _ (hS.mkB' [] t .map))
end Go.AM
namespace Go.AM
def insI (S : List Int) (x : Int) : List Int := if x ∈ S then S else S ++ [x]
def entI : List Int → List Value
  | [] => []
  | k :: r => .int .i64 k :: .bool true :: entI r
theorem entI_len : ∀ S, (entI S).length = 2 * S.length
  | [] => rfl
  | k :: r => by simp only [entI, List.length_cons, entI_len r]; omega
theorem entI_snoc : ∀ (S : List Int) (x : Int), entI (S ++ [x]) = entI S ++ [.int .i64 x, .bool true]
  | [], x => rfl
  | k :: r, x => by simp only [List.cons_append, entI, entI_snoc r]
theorem keyAt_entI : ∀ (S : List Int) (x : Int), (x ∉ S ∧ keyAt (.int .i64) (.int .i64 x) (entI S) = some none) ∨ (x ∈ S ∧ ∃ i, keyAt (.int .i64) (.int .i64 x) (entI S) = some (some i) ∧ (entI S)[i + 1]? = some (.bool true))
  | [], x => .inl ⟨by simp, rfl⟩
  | k :: r, x => by
    have e : keyAt (.int .i64) (.int .i64 x) (entI (k :: r)) = (keyAt (.int .i64) (.int .i64 x) (entI r)).map fun o => bif decide (x = k) then some 0 else o.map (· + 2) := rfl
    by_cases h : x = k
    · right
      refine ⟨by rw [h]; exact .head _, 0, ?_, rfl⟩
      rw [e, decide_eq_true h]
      rcases keyAt_entI r x with ⟨_, h2⟩ | ⟨_, i, h2, _⟩ <;> rw [h2] <;> rfl
    · rw [decide_eq_false h] at e
      rcases keyAt_entI r x with ⟨h1, h2⟩ | ⟨h1, i, h2, h3⟩
      · left
        refine ⟨by simp [h, h1], ?_⟩
        rw [e, h2]; rfl
      · right
        refine ⟨.tail _ h1, i + 2, ?_, h3⟩
        rw [e, h2]; rfl
section
variable {P : Program} {R : Type} {t kt et : TypeId} {B0 H0 B H : AH} {L L' : List (Nat × Blk)} {b : Nat} {S : List Int} {x : Int}
theorem Ev.mpTrueI {f : Nat → Nat → AH → Option R} {Q : R → Prop}
    (hU : P.underlying t = some (.map kt et)) (hK : P.underlying kt = some (.int .i64)) (hS : St H0 B0 B L H) (hu : Upd b ⟨entI S, t, .map⟩ ⟨entI (insI S x), t, .map⟩ L L') (hm : (b, ⟨entI S, t, .map⟩) ∈ L)
    (h : ∀ H', St H0 B0 B L' H' → Ev (fun k n => f k n H') Q) : Ev (fun k n => (mpU P t H (.map (some b)) (.int .i64 x) (.bool true)).bind (f k n)) Q := by
  have hb := hS.get hm
  have e : mpU P t H (.map (some b)) (.int .i64 x) (.bool true) = (keyAt (.int .i64) (.int .i64 x) (entI S)).map fun o => match o with
        | some i => put H b ⟨entI S, t, .map⟩ ((entI S).set (i + 1) (.bool true))
        | none => put H b ⟨entI S, t, .map⟩ (entI S ++ [.int .i64 x, .bool true]) := by
    unfold mpU mapB
    rw [hU]
    dsimp only
    rw [hK, Option.bind_some, hb, Option.bind_some, if_pos rfl, Option.bind_some, if_pos ⟨rfl, rfl⟩]
    rfl
  rcases keyAt_entI S x with ⟨h1, h2⟩ | ⟨h1, i, h2, h3⟩
  · rw [h2] at e
    refine Ev.prim e (h _ ?_)
    have e2 : insI S x = S ++ [x] := if_neg h1
    rw [e2, entI_snoc] at hu
    exact hS.put (cs := entI S ++ [.int .i64 x, .bool true]) hu
  · rw [h2] at e
    refine Ev.prim e (h _ ?_)
    have e1 : insI S x = S := if_pos h1
    rw [e1] at hu
    have e2 : (entI S).set (i + 1) (.bool true) = entI S := by
      apply List.ext_getElem?
      intro j
      rw [List.getElem?_set]
      split
      · rename_i hj
        subst hj
        rw [h3]
        have := (List.getElem?_eq_some_iff.1 h3).1
        rw [if_pos this]
      · rfl
    show St H0 B0 B _ (put H b ⟨entI S, t, .map⟩ ((entI S).set (i + 1) (.bool true)))
    rw [e2]
    exact hS.put (cs := entI S) hu
theorem lkI (hU : P.underlying t = some (.map kt et)) (hK : P.underlying kt = some (.int .i64)) (hz : zeroT P et = some (.bool false)) (hS : St H0 B0 B L H) (hm : (b, ⟨entI S, t, .map⟩) ∈ L) :
    lkU P t H (.map (some b)) (.int .i64 x) false = some (.bool (decide (x ∈ S))) := by
  unfold lkU mapCells mapB
  rw [hU]
  dsimp only
  rw [hK, Option.bind_some, hS.get hm, Option.bind_some, if_pos rfl, Option.map_some, Option.bind_some, if_pos (show keyOK (.int .i64) (.int .i64 x) = true from rfl)]
  dsimp only
  rcases keyAt_entI S x with ⟨h1, h2⟩ | ⟨h1, i, h2, h3⟩
  · rw [h2, Option.bind_some]
    dsimp only
    rw [hz, Option.map_some, decide_eq_false h1]; rfl
  · rw [h2, Option.bind_some]
    dsimp only
    rw [h3, Option.map_some, decide_eq_true h1]; rfl
end
theorem insI_mem {S : List Int} {x y : Int} : y ∈ insI S x ↔ y = x ∨ y ∈ S := by
  unfold insI
  split
  · rename_i h
    exact ⟨.inr, fun h2 => h2.elim (fun e => e ▸ h) id⟩
  · simp [or_comm]
theorem insI_nodup {S : List Int} {x : Int} (h : S.Nodup) : (insI S x).Nodup := by
  unfold insI
  split
  · exact h
  · rename_i hx
    rw [List.nodup_append]
    refine ⟨h, by simp, fun a ha b hb => ?_⟩
    simp at hb
    rintro rfl
    exact hx (hb ▸ ha)
def bm : List Int → Nat → Nat
  | [], _ => 0
  | n :: S, j => bm S j ||| (if n.toNat / 8 = j then 2 ^ (n.toNat % 8) else 0)
theorem bm_cons (n : Int) (S : List Int) (j : Nat) : bm (n :: S) j = bm S j ||| (if n.toNat / 8 = j then 2 ^ (n.toNat % 8) else 0) := rfl
theorem bm_bit : ∀ (S : List Int) (j t : Nat), (bm S j).testBit t = decide (∃ n ∈ S, n.toNat / 8 = j ∧ n.toNat % 8 = t)
  | [], j, t => by simp [bm]
  | n :: S, j, t => by
    unfold bm
    rw [Nat.testBit_or, bm_bit S j t]
    by_cases h : n.toNat / 8 = j
    · rw [if_pos h, Nat.testBit_two_pow]
      simp [h]
      by_cases h2 : n.toNat % 8 = t <;> simp [h2]
    · rw [if_neg h]
      simp [h]
theorem bm_lt : ∀ (S : List Int) (j : Nat), bm S j < 256
  | [], j => by simp [bm]
  | n :: S, j => by
    unfold bm
    refine Nat.or_lt_two_pow (n := 8) (bm_lt S j) ?_
    split
    · have h8 := Nat.mod_lt n.toNat (show 0 < 8 by decide)
      exact Nat.pow_lt_pow_right (by decide) h8
    · decide
theorem bm_congr {S T : List Int} (h : ∀ n, n ∈ S ↔ n ∈ T) (j : Nat) : bm S j = bm T j := by
  apply Nat.eq_of_testBit_eq
  intro t
  rw [bm_bit, bm_bit]
  simp only [h]
def bmL (S : List Int) : List UInt8 := (List.range 64).map fun j => UInt8.ofNat (bm S j)
def bmV (S : List Int) : List Value := (List.range 64).map fun j => .int .u8 (bm S j : Int)
theorem bmV_nil : bmV [] = List.replicate 64 (.int .u8 0) := by rfl
theorem bmV_congr {S T : List Int} (h : ∀ n, n ∈ S ↔ n ∈ T) : bmV S = bmV T := by
  unfold bmV
  apply List.map_congr_left
  intro j _
  rw [bm_congr h]
theorem bmV_len (S : List Int) : (bmV S).length = 64 := by unfold bmV; simp
theorem bmV_at (S : List Int) {j : Nat} (h : j < 64) : (bmV S)[j]? = some (.int .u8 (bm S j : Int)) := by
  unfold bmV
  rw [List.getElem?_map, List.getElem?_range h]; rfl
theorem bmV_cons {n : Int} {S : List Int} (h : n.toNat / 8 < 64) : bmV (n :: S) = (bmV S).set (n.toNat / 8) (.int .u8 ((bm S (n.toNat / 8) ||| 2 ^ (n.toNat % 8) : Nat) : Int)) := by
  apply List.ext_getElem?
  intro j
  rw [List.getElem?_set]
  by_cases hj : j < 64
  · rw [bmV_at _ hj]
    by_cases he : n.toNat / 8 = j
    · subst he
      rw [if_pos rfl, if_pos (by rw [bmV_len]; exact h), bm_cons, if_pos rfl]
    · rw [if_neg he, bmV_at _ hj, bm_cons, if_neg he, Nat.or_zero]
  · rw [List.getElem?_eq_none (by rw [bmV_len]; omega), if_neg (by omega), List.getElem?_eq_none (by rw [bmV_len]; omega)]
theorem bmV_byts (S : List Int) : bmV S = byts (bmL S) := by
  unfold bmV byts bmL
  rw [List.map_map, List.map_map]
  apply List.map_congr_left
  intro j _
  have := bm_lt S j
  show _ = Value.int .u8 ((UInt8.ofNat (bm S j)).toNat : Int)
  rw [UInt8.toNat_ofNat_of_lt' this]
def keysI : List Value → Option (List Int)
  | [] => some []
  | .int .i64 n :: .bool true :: r => (keysI r).map fun l => n :: l
  | _ => none
theorem keysI_ent : ∀ S, keysI (entI S) = some S
  | [] => rfl
  | n :: S => by unfold entI keysI; rw [keysI_ent S]; rfl
theorem ent_keysI : ∀ {cs : List Value} {S : List Int}, keysI cs = some S → cs = entI S := by
  intro cs
  fun_induction keysI cs with
  | case1 => intro S h; cases h; rfl
  | case2 n r ih =>
    intro S h
    cases hr : keysI r with
    | none => rw [hr] at h; cases h
    | some l => rw [hr] at h; cases h; rw [ih hr]; rfl
  | case3 => intro S h; cases h
noncomputable def gBits (args : List Value) (H : AH) : Option AH :=
  match args with
  | [.map (some mb), .slice (some ⟨b, 0, none⟩) 72 72] =>
    (mapB H mb).bind fun km => (keysI km.cells).bind fun S => (blk H b).bind fun k =>
      aChk (mb ≠ b ∧ (∀ n ∈ S, 0 ≤ n ∧ n < 512) ∧ k.kind = .fix ∧ k.cells.length = 72 ∧ k.cells.drop 8 = List.replicate 64 (.int .u8 0)) (some (put H b k (k.cells.take 8 ++ bmV S)))
  | _ => none
noncomputable def gKeys (args : List Value) (H : AH) : Option AH :=
  match args with
  | [.map (some a), .map (some b)] =>
    (mapB H a).bind fun ka => (keysI ka.cells).bind fun S => (mapB H b).bind fun kb => aChk (a ≠ b ∧ kb.cells = [] ∧ S.Nodup) (some (put H b kb (entI S)))
  | _ => none
def turnB (t : Nat) : List UInt8 := (List.range 6).map fun i => UInt8.ofNat (t / 256 ^ (5 - i))
def textH (t : Nat) (root : Int) (U : List Int) : List UInt8 := turnB t ++ ([UInt8.ofNat (root.toNat / 256), UInt8.ofNat root.toNat] ++ bmL U)
theorem textH_len (t : Nat) (root : Int) (U : List Int) : (textH t root U).length = 72 := by unfold textH turnB bmL; simp
end Go.AM
namespace Go.AM
open Go.RowKit
theorem ents_entI {m : Mp} : ∀ (S : List Int) (es : List MapEntry), LRel m (entI S) (ents es) → es.map (fun e => (e.key, e.val)) = S.map fun n => (Value.int .i64 n, Value.bool true)
  | [], [], _ => rfl
  | [], e :: es, h => by have := h.1; simp [entI, ents] at this
  | n :: S, [], h => by have := h.1; simp [entI, ents] at this
  | n :: S, e :: es, h => by
    have h0 : LRel m (.int .i64 n :: .bool true :: entI S) (e.key :: e.val :: ents es) := h
    obtain ⟨y, zs, e1, h1, h2⟩ := h0.cons_inv
    cases e1
    obtain ⟨y, zs, e1, h3, h4⟩ := h2.cons_inv
    cases e1
    rw [List.map_cons, List.map_cons, ents_entI S es h4, h1.flat_inv rfl, h3.flat_inv rfl]
theorem cons_range {α : Type} {a : Array α} {x : α} {l : List α} (h : a.toList = x :: l) : List.range a.size = 0 :: (List.range' 1 l.length ++ []) ∧ a[0]? = some x ∧ ∀ j y, l[j]? = some y → a[1 + j]? = some y := by
  have hs : a.size = l.length + 1 := by rw [← Array.length_toList, h]; rfl
  refine ⟨by rw [hs, List.append_nil, List.range_eq_range', List.range'_succ], by rw [← Array.getElem?_toList, h]; rfl, fun j y hj => ?_⟩
  rw [← Array.getElem?_toList, h, Nat.add_comm]
  exact hj
theorem oper_val {P : Program} {r : Option Nat} {n : Nat} {o : Oper} {a : Act} {w w' : World} {v : Value} {d : Option Tmp} {next : Act → World → Prop} {Q : Exit → Act → World → Prop} (hd : ∀ c, o.op ≠ .defer c) (hr : (execOp a.eval o).run P w = .ok (.value v) w') (e : o.dst = d) (h : next (a.put d v) w') : o.wpIn (FW r) n P a w next Q := oper_in hd (by
  unfold Oper.wp
  rw [hr]
  subst e
  exact h)
theorem range_sim {P : Program} {call : CallF} (hcall : CallOK P call) (hdraw : DrawOK P call) (hmix : P.follows .mixedOrders = true) (n0 : Nat) (tb : Tbl)
    {idR B id5 C id6 : Nat} {opsR ops5 ops6 : Array Oper} {pre r5 r6 : List Oper} {oR oN oE : Oper} {body : Code} {tm kt et : TypeId} {mp it nx en ok : Tmp}
    (hR : opsR.toList = pre ++ [oR]) (hpre : ∀ o ∈ pre, o.guard = none) (hoR : oR.op = .range tm (.tmp mp) ∧ oR.dst = some it ∧ oR.guard = none)
    (h5 : ops5.toList = oN :: r5) (hr5 : ∀ o ∈ r5, o.guard = none) (hoN : oN.op = .next (.tmp it) false ∧ oN.dst = some nx ∧ oN.guard = none)
    (h6 : ops6.toList = oE :: r6) (hr6 : ∀ o ∈ r6, o.guard = none) (hoE : oE.op = .entry (.tmp it) ∧ oE.dst = some en ∧ oE.guard = none)
    (hUt : P.underlying tm = some (.map kt et)) (hbody : rgs body = [])
    {T T1 Tk TM T5f : List Value} {H H' : AH} {a : Nat} {km : Blk} {S0 : List Int} {keep keepM : List Nat} {T5 T6 : Int → List Value}
    (hp : evOps P call opsR pre T H (fun T H => some (T, H)) = some (T1, H)) (hmp : T1.getD mp undef = .map (some a)) (ha : blk H a = some km) (hak : km.kind = .map) (hac : km.cells = entI S0)
    (hTk : maskT keep 0 (T1.set it (ptr H.length 0)) = Tk) (hit : Tk.getD it undef = ptr H.length 0)
    (e5 : ∀ n Hs, evOps P call ops5 r5 (Tk.set nx (.tuple #[.bool true, .int .i64 n, .bool true])) Hs (fun T H => some (T, H)) = some (T5 n, Hs))
    (e5c : ∀ n, (T5 n).getD ok undef = .bool true) (e5i : ∀ n, (T5 n).getD it undef = ptr H.length 0)
    (e6 : ∀ n Hs, evOps P call ops6 r6 ((T5 n).set en (.tuple #[.int .i64 n, .bool true])) Hs (fun T H => some (T, H)) = some (T6 n, Hs))
    (e5f : ∀ Hs, evOps P call ops5 r5 (Tk.set nx (.tuple #[.bool false])) Hs (fun T H => some (T, H)) = some (T5f, Hs)) (e5fc : T5f.getD ok undef = .bool false) (hTM : maskT keepM 0 T5f = TM)
    (Inv : List Int → AH → Prop) (inv0 : Inv [] (kill H a ++ [none])) (ilen : ∀ S Hs, Inv S Hs → blk Hs a = none)
    (step : ∀ S n Hs, Inv S Hs → n ∈ S0 → n ∉ S → ∃ Tb Hb, evalK P call n0 tb body (T6 n) Hs (fun e T H => some (e, T, H)) = some (EX.normal, Tb, Hb) ∧ maskT keep 0 Tb = Tk ∧ Inv (n :: S) Hb)
    (fin : ∀ S Hs, Inv S Hs → S.Nodup → (∀ n, n ∈ S ↔ n ∈ S0) → H'.length = Hs.length ∧ (∀ b k', blk H' b = some k' → ∃ k, blk (Hs.set a (some km)) b = some k ∧ k.kind = k'.kind) ∧ ∀ B0 w0 m w, Rel P B0 w0 m (Hs.set a (some km)) w → Rel P B0 w0 m H' w) :
    CodeSim P none (.seq (.region idR opsR false) (.block B (.loop (.seq (.region id5 ops5 false) (.seq (.cond (.tmp ok) .skip (.exit B)) (.block C (.seq (.region id6 ops6 false) body))))))) T H .normal TM H' := by
  intro n Bf B0 w0 m act w Q R0 hT hd hB hq
  obtain ⟨c5a, c5b, c5c⟩ := cons_range h5
  obtain ⟨c6a, c6b, c6c⟩ := cons_range h6
  have mk : ∀ (keep : List Nat) (m : Mp) (T Ts : List Value), LRel m T Ts → LRel m (maskT keep 0 T) Ts := fun keep m T Ts h => by
    have := cutT_rel [(0, keep)] 0 h
    exact this
  refine wpIn_seq (wpIn_region ?_)
  have hsz : opsR.size = pre.length + 1 := by rw [← Array.length_toList, hR]; simp
  have hrg : List.range opsR.size = List.range' 0 pre.length ++ [pre.length] := by
    rw [hsz, List.range_succ, List.range_eq_range']
  have hat : ∀ j o, pre[j]? = some o → opsR[0 + j]? = some o ∧ o.guard = none := fun j o hj => by
    refine ⟨?_, hpre o (List.mem_of_getElem? hj)⟩
    rw [← Array.getElem?_toList, hR, Nat.zero_add, List.getElem?_append_left (List.getElem?_eq_some_iff.1 hj).1]
    exact hj
  have hlast : opsR[pre.length]? = some oR := by rw [← Array.getElem?_toList, hR]; simp
  rw [hrg]
  refine evOps_pre hcall none opsR pre 0 T H T1 H hat hp n B0 w0 m act w act.defers [pre.length] _ R0 hT rfl fun m1 a1 w1 A => ?_
  have hd1 : Marks Bf a1.defers m1 H w1 := by rw [A.defers]; exact hd.ext R0 A.ext
  have hsz1 : Bf ≤ w1.heap.size := Nat.le_trans hB A.ext.size
  have hmv := opv_rel A.tmps (.tmp mp)
  have hmv2 : VRel m1 (.map (some a)) (a1.eval (.tmp mp)) := by
    have : opv T1 (.tmp mp) = .map (some a) := hmp
    rwa [this] at hmv
  obtain ⟨L, hm, he, hLk⟩ := hmv2.map_inv
  have hBR := A.rel.blks a L km hm ha
  obtain ⟨es, clock, es0, hw, hpm, hnd, ⟨hbn, hbd⟩, hl⟩ := hBR.mp hak
  rw [hac] at hl
  have hents := ents_entI S0 es0 hl
  have hent : ∀ e ∈ es.toList, ∃ n ∈ S0, e.key = .int .i64 n ∧ e.val = .bool true := by
    intro e he
    have h1 : (e.key, e.val) ∈ es0.map fun e => (e.key, e.val) := List.mem_map.2 ⟨e, hpm.mem_iff.1 he, rfl⟩
    rw [hents] at h1
    obtain ⟨n, hn, h2⟩ := List.mem_map.1 h1
    obtain ⟨h3, h4⟩ := Prod.mk.inj h2
    exact ⟨n, hn, h3.symm, h4.symm⟩
  have hback : ∀ n ∈ S0, ∃ e ∈ es.toList, e.key = .int .i64 n := by
    intro n hn
    have h1 : (Value.int .i64 n, Value.bool true) ∈ S0.map fun n => (Value.int .i64 n, Value.bool true) := List.mem_map.2 ⟨n, hn, rfl⟩
    rw [← hents] at h1
    obtain ⟨e, he, h2⟩ := List.mem_map.1 h1
    exact ⟨e, hpm.mem_iff.2 he, (congrArg Prod.fst h2)⟩
  have hbd' : (es.toList.map (·.born)).Nodup := (hpm.map _).nodup_iff.2 hbd
  have hbn' : ∀ x ∈ es.toList, x.born < clock := fun x hx => hbn x (hpm.mem_iff.1 hx)
  have hLlt : L.blk < w1.heap.size := (A.rel.dom a L hm).2
  have hane : km.kind ≠ .ro := by rw [hak]; decide
  -- the start
  simp only [wpOpsIn, hlast]
  rw [if_pos (by unfold Region.wanted; rw [hoR.2.2])]
  have hrun : (execOp a1.eval oR).run P w1 = .ok (.value (.pointer (some ⟨w1.heap.size, 0, none⟩))) (w1.alloc (.mapIter (some L.blk) clock #[] clock)) := by
    have := run_range_map (P := P) w1 tm kt et L.blk es clock hUt hw
    obtain ⟨dst, op, ty, ps, af, g⟩ := oR
    obtain ⟨rfl, _, _⟩ := hoR
    simp only [execOp, he, Sem.run_bind, this, Result.andThen_ok, Sem.run_pure]
  refine oper_val (isDefer_no (by rw [hoR.1]; rfl)) hrun rfl ?_
  obtain ⟨Rk, Ek⟩ := A.rel.killed a
  obtain ⟨R2, E2⟩ := Rk.mkDead (.mapIter (some L.blk) clock #[] clock) .fix
  rw [length_kill'] at R2 E2
  have hm2 : ∀ b L, m1 b = some L → upd m1 H.length ⟨w1.heap.size, 0, .fix, 0, 0⟩ b = some L := E2.mono
  have hT2 : LRel (upd m1 H.length ⟨w1.heap.size, 0, .fix, 0, 0⟩) Tk (a1.put oR.dst (.pointer (some ⟨w1.heap.size, 0, none⟩))).tmps.toList := by
    rw [hoR.2.1, ← hTk]
    refine mk _ _ _ _ ?_
    exact put_rel (A.tmps.mono hm2) (some it) (.ptr H.length 0 ⟨w1.heap.size, 0, .fix, 0, 0⟩ (upd_same _ _ _) rfl)
  have fL : Free (upd m1 H.length ⟨w1.heap.size, 0, .fix, 0, 0⟩) (kill H a ++ [none]) L.blk := by
    have f0 : Free m1 (kill H a) L.blk := by
      intro b L2 k2 h1 h2
      by_cases hb : a = b
      · subst hb; rw [blk_kill_same] at h2; cases h2
      · rw [blk_kill_ne hb] at h2
        exact fun e => A.rel.inj a b L L2 km k2 hm h1 ha h2 hane hb e.symm
    exact f0.ext Rk E2 hLlt
  have fr : Free (upd m1 H.length ⟨w1.heap.size, 0, .fix, 0, 0⟩) (kill H a ++ [none]) w1.heap.size := by
    intro b L2 k2 h1 h2
    have hlt := blk_lt' h2
    unfold upd at h1
    split at h1
    · rename_i hb
      subst hb
      unfold blk at h2
      rw [List.getElem?_append_right (by rw [length_kill']; exact Nat.le_refl _), length_kill', Nat.sub_self] at h2
      cases h2
    · have := (Rk.dom b L2 h1).2
      omega
  have hw2 : (w1.alloc (.mapIter (some L.blk) clock #[] clock)).heap[L.blk]? = some (.map es clock) := by rw [Below.heap_alloc w1 _ _ hLlt]; exact hw
  have hr2 : (w1.alloc (.mapIter (some L.blk) clock #[] clock)).heap[w1.heap.size]? = some (.mapIter (some L.blk) clock #[] clock) := heap_alloc_new w1 _
  have hmk2 : Marks Bf (a1.put oR.dst (.pointer (some ⟨w1.heap.size, 0, none⟩))).defers (upd m1 H.length ⟨w1.heap.size, 0, .fix, 0, 0⟩) (kill H a ++ [none]) (w1.alloc (.mapIter (some L.blk) clock #[] clock)) := by
    rw [put_defers]
    exact (hd1.ext A.rel Ek).ext Rk E2
  have hmi : (upd m1 H.length ⟨w1.heap.size, 0, .fix, 0, 0⟩) H.length = some ⟨w1.heap.size, 0, .fix, 0, 0⟩ := upd_same _ _ _
  generalize hmm : upd m1 H.length ⟨w1.heap.size, 0, .fix, 0, 0⟩ = m2 at *
  generalize hww : w1.alloc (.mapIter (some L.blk) clock #[] clock) = w2 at *
  generalize haa : a1.put oR.dst (.pointer (some ⟨w1.heap.size, 0, none⟩)) = a2 at *
  generalize hHH : kill H a ++ [none] = H2 at *
  show Code.wpIn _ _ _ _ _ _ _
  refine wpIn_block ?_
  -- the rounds
  have key : ∀ (q : Nat) (S : List Int) (Hs : AH) (m3 : Mp) (a3 : Act) (w3 : World) (seen : Array Nat), Inv S Hs → S.Nodup → (∀ n ∈ S, n ∈ S0) → (∀ e ∈ es.toList, seen.contains e.born = true ↔ ∃ n ∈ S, e.key = .int .i64 n) → (leftOf es seen).size < q →
      Ext m1 (kill H a) w1 m3 Hs w3 → Rel P B0 w0 m3 Hs w3 → LRel m3 Tk a3.tmps.toList → Marks Bf a3.defers m3 Hs w3 → Free m3 Hs L.blk → Free m3 Hs w1.heap.size → w3.heap[L.blk]? = some (.map es clock) → w3.heap[w1.heap.size]? = some (.mapIter (some L.blk) clock seen clock) → m3 H.length = some ⟨w1.heap.size, 0, .fix, 0, 0⟩ →
      Code.roundsIn (FW none) n P (.seq (.region id5 ops5 false) (.seq (.cond (.tmp ok) .skip (.exit B)) (.block C (.seq (.region id6 ops6 false) body)))) (Exit.inBlock B Q) q a3 w3 := by
    intro q
    induction q with
    | zero => intro S Hs m3 a3 w3 seen _ _ _ _ hlt; omega
    | succ q ih =>
      intro S Hs m3 a3 w3 seen hI hSn hS0 hseen hlt E3 R3 hT3 hd3 fL3 fr3 hw3 hr3 hmi3
      have hrlt : w1.heap.size < w3.heap.size := (Array.getElem?_eq_some_iff.1 hr3).1
      have iter : ∀ (T : List Value) (a : Act), LRel m3 T a.tmps.toList → T.getD it undef = ptr H.length 0 → a.eval (.tmp it) = .pointer (some ⟨w1.heap.size, 0, none⟩) := by
        intro T a hT hit
        have := opv_rel hT (.tmp it)
        rw [show opv T (.tmp it) = ptr H.length 0 from hit] at this
        obtain ⟨L', h1, h2, _⟩ := this.ptr_inv
        rw [hmi3] at h1
        cases h1
        exact h2
      rw [roundsIn_succ]
      refine wpIn_seq (wpIn_region ?_)
      rw [c5a]
      simp only [wpOpsIn, c5b]
      rw [if_pos (by unfold Region.wanted; rw [hoN.2.2])]
      have hexec : ∀ v w', (Instr.next (.pointer (some ⟨w1.heap.size, 0, none⟩)) false oN.type).run P w3 = .ok v w' → (execOp a3.eval oN).run P w3 = .ok (.value v) w' := by
        intro v w' hh
        have h1 := iter Tk a3 hT3 hit
        obtain ⟨dst, op, ty, ps, af, g⟩ := oN
        obtain ⟨rfl, _, _⟩ := hoN
        simp only at hh
        simp only [execOp, h1, Sem.run_bind, hh, Result.andThen_ok, Sem.run_pure]
      rcases run_next_at (P := P) w3 oN.type w1.heap.size L.blk clock clock seen es clock hr3 hw3 hbn' (Nat.le_refl _) with ⟨h0, hrun⟩ | ⟨e, heL, w4, hw4, hrun⟩
      · refine oper_val (isDefer_no (by rw [hoN.1]; rfl)) (hexec _ _ hrun) hoN.2.1 ?_
        refine evOps_pre hcall none ops5 r5 1 _ Hs T5f Hs (fun j o hj => ⟨c5c j o hj, hr5 o (List.mem_of_getElem? hj)⟩) (e5f Hs) n B0 w0 m3 _ w3 a3.defers [] _ R3 (put_rel hT3 (some nx) (.tuple _ _ rfl fun i x y hx hy => by
          rw [hx] at hy; cases hy
          have := Array.mem_of_getElem? hx
          simp at this; subst this; exact .flat _ rfl)) (put_defers _ _ _) fun m5 a5 w5 A5 => ?_
        simp only [wpOpsIn]
        have hc := opv_rel A5.tmps (.tmp ok)
        rw [show opv T5f (.tmp ok) = .bool false from e5fc] at hc
        refine wpIn_seq (wpIn_cond_false hc.bool_inv (wpIn_exit ?_))
        show (if B = B then Q .normal a5 w5 else Q (.exit B) a5 w5)
        rw [if_pos rfl]
        have hall : ∀ n, n ∈ S ↔ n ∈ S0 := fun n => ⟨hS0 n, fun hn => by
          obtain ⟨e, he, hk⟩ := hback n hn
          obtain ⟨n2, hn2, hk2⟩ := (hseen e he).1 (all_seen es seen h0 e he)
          rw [hk] at hk2
          cases hk2
          exact hn2⟩
        obtain ⟨f1, f2, f3⟩ := fin S Hs hI hSn hall
        have hlt5 : L.blk < w3.heap.size := (Array.getElem?_eq_some_iff.1 hw3).1
        have hw5 : w5.heap[L.blk]? = some (.map es clock) := (fL3.frame A5.ext hlt5).trans hw3
        have fL5 := fL3.ext R3 A5.ext hlt5
        have E5 := Ext.trans (fun b L hb => (Rk.dom b L hb).1) E3 A5.ext
        have hm5 : m5 a = some L := E5.mono _ _ hm
        have hBR5 : BRel P B0 m5 L km w5 := hBR.at E5.mono (hw5.trans hw.symm)
        have hlt6 : a < Hs.length := Nat.lt_of_lt_of_le (by rw [length_kill']; exact blk_lt' ha) E3.len
        have R6 := f3 B0 w0 m5 w5 (A5.rel.unkill hm5 hlt6 hBR5 fL5)
        have E6 : Ext m1 H w1 m5 H' w5 := by
          refine ⟨E5.mono, by rw [f1]; have := E3.len; rwa [length_kill'] at this, E5.size, ?_, ?_, ?_⟩
          · intro b k' hb hk'
            obtain ⟨k, h1, h2⟩ := f2 b k' hk'
            by_cases hab : a = b
            · subst hab
              rw [blk_set_same hlt6] at h1
              cases h1
              exact ⟨km, ha, h2⟩
            · rw [blk_set_ne hab] at h1
              obtain ⟨k0, h3, h4⟩ := E5.alive b k (by rw [length_kill']; exact hb) h1
              rw [blk_kill_ne hab] at h3
              exact ⟨k0, h3, h4.trans h2⟩
          · intro b L2 hb
            rcases E5.new b L2 hb with h1 | ⟨h1, h2 | ⟨b0, L0, k0, h3, h4, h5, h6⟩⟩
            · exact .inl h1
            · exact .inr ⟨by rwa [length_kill'] at h1, .inl h2⟩
            · refine .inr ⟨by rwa [length_kill'] at h1, .inr ⟨b0, L0, k0, h3, ?_, h5, h6⟩⟩
              by_cases hab : a = b0
              · subst hab; rw [blk_kill_same] at h4; cases h4
              · rwa [blk_kill_ne hab] at h4
          · intro B' hB' hf
            refine E5.frame B' hB' fun b L2 k2 h1 h2 h3 => ?_
            by_cases hab : a = b
            · subst hab; rw [blk_kill_same] at h2; cases h2
            · rw [blk_kill_ne hab] at h2
              exact hf b L2 k2 h1 h2 h3
        refine hq m5 a5 w5 ⟨Ext.trans (fun b L hb => (R0.dom b L hb).1) A.ext E6, R6, by rw [← hTM]; exact mk _ _ _ _ A5.tmps, ?_⟩
        have hd5 : Marks Bf a5.defers m5 Hs w5 := by rw [A5.defers]; exact hd3.ext R3 A5.ext
        obtain ⟨Ds, d1, d2, d3⟩ := hd5
        refine ⟨Ds, d1, d2, fun D hD => ?_⟩
        obtain ⟨d4, d5, d6⟩ := d3 D hD
        refine ⟨d4, d5, fun b L2 k2 h1 h2 h3 => ?_⟩
        obtain ⟨k, h4, h5⟩ := f2 b k2 h2
        by_cases hab : a = b
        · subst hab
          rw [hm5] at h1
          cases h1
          rintro rfl
          rw [hw5] at d5
          cases d5
        · rw [blk_set_ne hab] at h4
          exact d6 b L2 k h1 h4 (by rw [h5]; exact h3)
      · obtain ⟨hees, hens⟩ := mem_left heL
        obtain ⟨n1, hn1, hk1, hv1⟩ := hent e hees
        have hnS : n1 ∉ S := fun h => by rw [(hseen e hees).2 ⟨n1, h, hk1⟩] at hens; cases hens
        rw [hk1, hv1] at hrun
        have R4 : Rel P B0 w0 m3 Hs (w4.putObj w1.heap.size (.mapIter (some L.blk) clock (seen.push e.born) clock)) := by
          rcases hw4 with rfl | rfl
          · exact R3.putFree _ A.rel.hB fr3
          · exact R3.drew.putFree _ A.rel.hB fr3
        have E4 : Ext m1 (kill H a) w1 m3 Hs (w4.putObj w1.heap.size (.mapIter (some L.blk) clock (seen.push e.born) clock)) := by
          rcases hw4 with rfl | rfl
          · exact E3.putIter (Nat.le_refl _)
          · exact E3.drew.putIter (Nat.le_refl _)
        have hd4 : Marks Bf a3.defers m3 Hs (w4.putObj w1.heap.size (.mapIter (some L.blk) clock (seen.push e.born) clock)) := by
          rcases hw4 with rfl | rfl
          · exact hd3.putIter fun l => by rw [hr3]; intro h; cases h
          · exact hd3.drew.putIter fun l => by show w3.heap[_]? ≠ _; rw [hr3]; intro h; cases h
        have hheap : w4.heap = w3.heap := by rcases hw4 with rfl | rfl <;> rfl
        have hsz4 : (w4.putObj w1.heap.size (.mapIter (some L.blk) clock (seen.push e.born) clock)).heap.size = w3.heap.size := by rw [World.putObj_size, hheap]
        have hr4 : (w4.putObj w1.heap.size (.mapIter (some L.blk) clock (seen.push e.born) clock)).heap[w1.heap.size]? = some (.mapIter (some L.blk) clock (seen.push e.born) clock) := World.putObj_heap_same (by rw [hheap]; exact hrlt)
        have hw4' : (w4.putObj w1.heap.size (.mapIter (some L.blk) clock (seen.push e.born) clock)).heap[L.blk]? = some (.map es clock) := by
          rw [World.putObj_heap_other (by omega), hheap]; exact hw3
        generalize w4.putObj w1.heap.size (.mapIter (some L.blk) clock (seen.push e.born) clock) = w4 at hrun R4 E4 hd4 hsz4 hr4 hw4'
        refine oper_val (isDefer_no (by rw [hoN.1]; rfl)) (hexec _ _ hrun) hoN.2.1 ?_
        refine evOps_pre hcall none ops5 r5 1 _ Hs (T5 n1) Hs (fun j o hj => ⟨c5c j o hj, hr5 o (List.mem_of_getElem? hj)⟩) (e5 n1 Hs) n B0 w0 m3 _ w4 a3.defers [] _ R4 (put_rel hT3 (some nx) (.tuple _ _ rfl fun i x y hx hy => by
          rw [hx] at hy; cases hy
          have := Array.mem_of_getElem? hx
          simp at this
          rcases this with rfl | rfl | rfl <;> exact .flat _ rfl)) (put_defers _ _ _) fun m5 a5 w5 A5 => ?_
        simp only [wpOpsIn]
        have hc := opv_rel A5.tmps (.tmp ok)
        rw [show opv (T5 n1) (.tmp ok) = .bool true from e5c n1] at hc
        refine wpIn_seq (wpIn_cond_true hc.bool_inv (wpIn_skip ?_))
        show Code.wpIn _ _ _ _ _ _ _
        refine wpIn_block (wpIn_seq (wpIn_region ?_))
        rw [c6a]
        simp only [wpOpsIn, c6b]
        rw [if_pos (by unfold Region.wanted; rw [hoE.2.2])]
        have E5 := Ext.trans (fun b L hb => (Rk.dom b L hb).1) E4 A5.ext
        have hlt4 : L.blk < w4.heap.size := (Array.getElem?_eq_some_iff.1 hw4').1
        have hrlt4 : w1.heap.size < w4.heap.size := by rw [hsz4]; exact hrlt
        have hw5 : w5.heap[L.blk]? = some (.map es clock) := (fL3.frame A5.ext hlt4).trans hw4'
        have hr5' : w5.heap[w1.heap.size]? = some (.mapIter (some L.blk) clock (seen.push e.born) clock) := (fr3.frame A5.ext hrlt4).trans hr4
        have fL5 := fL3.ext R4 A5.ext hlt4
        have fr5 := fr3.ext R4 A5.ext hrlt4
        have hd5 : Marks Bf a5.defers m5 Hs w5 := by rw [A5.defers]; exact hd4.ext R4 A5.ext
        have hmi5 := A5.ext.mono _ _ hmi3
        have hit5 : a5.eval (.tmp it) = .pointer (some ⟨w1.heap.size, 0, none⟩) := by
          have := opv_rel A5.tmps (.tmp it)
          rw [show opv (T5 n1) (.tmp it) = ptr H.length 0 from e5i n1] at this
          obtain ⟨L', h1, h2, _⟩ := this.ptr_inv
          rw [hmi5] at h1
          cases h1
          exact h2
        have hrun6 : (execOp a5.eval oE).run P w5 = .ok (.value (.tuple #[.int .i64 n1, .bool true])) w5 := by
          have hh := run_entry_at (P := P) w5 w1.heap.size L.blk clock seen es clock e hr5' hw5 hees hbd'
          rw [hk1, hv1] at hh
          obtain ⟨dst, op, ty, ps, af, g⟩ := oE
          obtain ⟨rfl, _, _⟩ := hoE
          simp only [execOp, hit5, Sem.run_bind, hh, Result.andThen_ok, Sem.run_pure]
        refine oper_val (isDefer_no (by rw [hoE.1]; rfl)) (hrun6) hoE.2.1 ?_
        refine evOps_pre hcall none ops6 r6 1 _ Hs (T6 n1) Hs (fun j o hj => ⟨c6c j o hj, hr6 o (List.mem_of_getElem? hj)⟩) (e6 n1 Hs) n B0 w0 m5 _ w5 a5.defers [] _ A5.rel (put_rel A5.tmps (some en) (.tuple _ _ rfl fun i x y hx hy => by
          rw [hx] at hy; cases hy
          have := Array.mem_of_getElem? hx
          simp at this
          rcases this with rfl | rfl <;> exact .flat _ rfl)) (put_defers _ _ _) fun m6 a6 w6 A6 => ?_
        simp only [wpOpsIn]
        obtain ⟨Tb, Hb, hev, hTb, hIb⟩ := step S n1 Hs hI hn1 hnS
        obtain ⟨e7, T7, H7, h7, hsim⟩ := evalK_sound hcall hdraw hmix n0 tb none body (.inl rfl) (RangesAt.nil hbody) _ _ _ _ hev
        cases h7
        have hlt5 : L.blk < w5.heap.size := (Array.getElem?_eq_some_iff.1 hw5).1
        have hrlt5 : w1.heap.size < w5.heap.size := (Array.getElem?_eq_some_iff.1 hr5').1
        have fL6 := fL5.ext A5.rel A6.ext hlt5
        have fr6 := fr5.ext A5.rel A6.ext hrlt5
        have hw6 := (fL5.frame A6.ext hlt5).trans hw5
        have hr6' := (fr5.frame A6.ext hrlt5).trans hr5'
        have hd6 : Marks Bf a6.defers m6 Hs w6 := by rw [A6.defers]; exact hd5.ext A5.rel A6.ext
        have E6 := Ext.trans (fun b L hb => (Rk.dom b L hb).1) E5 A6.ext
        show Code.wpIn _ _ _ _ _ _ _
        refine hsim n Bf B0 w0 m6 a6 w6 _ A6.rel A6.tmps hd6 (Nat.le_trans hsz1 E6.size) fun m7 a7 w7 A7 => ?_
        show Code.roundsIn _ _ _ _ _ _ _ _
        have hlt6 : L.blk < w6.heap.size := (Array.getElem?_eq_some_iff.1 hw6).1
        have hrlt6 : w1.heap.size < w6.heap.size := (Array.getElem?_eq_some_iff.1 hr6').1
        refine ih (n1 :: S) Hb m7 a7 w7 (seen.push e.born) hIb (List.nodup_cons.2 ⟨hnS, hSn⟩) (fun x hx => ?_) (fun e' he' => ?_) (by have := left_shrinks es seen e heL; omega) (Ext.trans (fun b L hb => (Rk.dom b L hb).1) E6 A7.ext) A7.rel
          (by rw [← hTb]; exact mk _ _ _ _ A7.tmps) A7.marks (fL6.ext A6.rel A7.ext hlt6) (fr6.ext A6.rel A7.ext hrlt6) ((fL6.frame A7.ext hlt6).trans hw6) ((fr6.frame A7.ext hrlt6).trans hr6') (A7.ext.mono _ _ (A6.ext.mono _ _ hmi5))
        · rcases List.mem_cons.1 hx with rfl | hx
          · exact hn1
          · exact hS0 x hx
        · rw [contains_push]
          constructor
          · intro h
            rcases Bool.or_eq_true _ _ ▸ h with h | h
            · obtain ⟨n2, h2, h3⟩ := (hseen e' he').1 h
              exact ⟨n2, .tail _ h2, h3⟩
            · have := born_inj hbd' he' hees (by simpa using h)
              subst this
              exact ⟨n1, .head _, hk1⟩
          · rintro ⟨n2, h2, h3⟩
            rcases List.mem_cons.1 h2 with rfl | h2
            · have hee : e' = e := nodup_key hnd (hpm.mem_iff.1 he') (hpm.mem_iff.1 hees) (h3.trans hk1.symm)
              subst hee
              simp
            · rw [(hseen e' he').2 ⟨n2, h2, h3⟩]
              rfl
  exact wpIn_loop_rounds _ (key _ [] H2 m2 a2 w2 #[] inv0 List.nodup_nil (fun n h => by cases h) (fun e he => ⟨fun h => by simp at h, fun ⟨n, h, _⟩ => by cases h⟩) (Nat.lt_succ_self _) E2 R2 hT2 hmk2 fL fr hw2 hr2 hmi)
end Go.AM
namespace Go.AM
open Go.RowKit
theorem list_of {n : Nat} {T : List Value} (h : T.length = n) : T = (List.range n).map fun i => T.getD i undef := by
  apply List.ext_getElem?
  intro i
  rw [List.getElem?_map]
  by_cases hi : i < n
  · rw [List.getElem?_range hi, List.getElem?_eq_getElem (by omega)]
    simp [List.getD, List.getElem?_eq_getElem (show i < T.length by omega)]
  · rw [List.getElem?_eq_none (by omega), List.getElem?_eq_none (by simp; omega)]
    rfl
theorem perm_map {α β : Type} (f : α → β) : ∀ (t : List β) (l : List α), (l.map f).Perm t → ∃ l', l.Perm l' ∧ l'.map f = t
  | [], l, h => by
    have := h.length_eq
    rw [List.length_map] at this
    have := List.eq_nil_of_length_eq_zero this
    subst this
    exact ⟨[], List.Perm.nil, rfl⟩
  | b :: t, l, h => by
    have hb : b ∈ l.map f := h.mem_iff.2 (.head _)
    obtain ⟨a, ha, rfl⟩ := List.mem_map.1 hb
    obtain ⟨l1, l2, rfl⟩ := List.append_of_mem ha
    have h1 : ((l1 ++ l2).map f).Perm t := by
      have h2 : (f a :: (l1 ++ l2).map f).Perm (f a :: t) := by
        refine List.Perm.trans ?_ h
        have : ((a :: (l1 ++ l2)).map f).Perm ((l1 ++ a :: l2).map f) := (List.perm_middle.symm).map f
        exact this
      exact (List.perm_cons _).1 h2
    obtain ⟨l', h3, h4⟩ := perm_map f t _ h1
    exact ⟨a :: l', (List.perm_middle).trans (h3.cons a), by rw [List.map_cons, h4]⟩
theorem ents_of : ∀ (es : List MapEntry) (S : List Int), es.map (fun e => (e.key, e.val)) = S.map (fun n => (Value.int .i64 n, Value.bool true)) → ents es = entI S
  | [], [], _ => rfl
  | [], _ :: _, h => by cases h
  | _ :: _, [], h => by cases h
  | e :: es, n :: S, h => by
    rw [List.map_cons, List.map_cons] at h
    injection h with h1 h2
    obtain ⟨h3, h4⟩ := Prod.mk.inj h1
    show e.key :: e.val :: ents es = _
    rw [ents_of es S h2, h3, h4]
    rfl
theorem entI_flat : ∀ S : List Int, (entI S).all flat1 = true
  | [] => rfl
  | n :: S => by show (flat1 (.int .i64 n) && (flat1 (.bool true) && (entI S).all flat1)) = true; rw [entI_flat S]; rfl
theorem Rel.permMap {P : Program} {B0 : Nat} {w0 w : World} {m : Mp} {H : AH} (h : Rel P B0 w0 m H w) {b : Nat} {e : TypeId} {S S0 : List Int} (hb : blk H b = some ⟨entI S, e, .map⟩) (hp : S.Perm S0) : Rel P B0 w0 m (H.set b (some ⟨entI S0, e, .map⟩)) w := by
  have hlt := blk_lt' hb
  refine ⟨h.below, h.hB, fun b2 L2 h2 => by rw [List.length_set]; exact h.dom b2 L2 h2, fun b2 L2 k2 h2 hk2 => ?_, fun b1 b2 L1 L2 k1 k2 h1 h2 hk1 hk2 hne hbb => ?_⟩
  · by_cases hbb : b = b2
    · subst hbb
      rw [blk_set_same hlt] at hk2
      cases hk2
      have hB := h.blks b L2 _ h2 hb
      obtain ⟨es, clock, es0, hw, p1, p2, ⟨p3, p4⟩, hl⟩ := hB.mp rfl
      have he := ents_entI S es0 hl
      obtain ⟨es1, q1, q2⟩ := perm_map (fun e : MapEntry => (e.key, e.val)) (S0.map fun n => (Value.int .i64 n, Value.bool true)) es0 (by rw [he]; exact hp.map _)
      refine ⟨hB.kind, fun hx => (by cases hx), fun _ => ⟨es, clock, es1, hw, p1.trans q1, (q1.map _).nodup_iff.1 p2, ⟨fun x hx => p3 x (q1.mem_iff.2 hx), (q1.map _).nodup_iff.1 p4⟩, ?_⟩, fun f key hx => (by cases hx), hB.own, fun hx => (by cases hx)⟩
      show LRel m (entI S0) (ents es1)
      rw [ents_of es1 S0 q2]
      exact LRel.of_flat _ (entI_flat S0)
    · rw [blk_set_ne hbb] at hk2
      exact h.blks b2 L2 k2 h2 hk2
  · have up : ∀ b3 k3, blk (H.set b (some ⟨entI S0, e, .map⟩)) b3 = some k3 → ∃ k4, blk H b3 = some k4 ∧ k4.kind = k3.kind := by
      intro b3 k3 h3
      by_cases hbb : b = b3
      · subst hbb
        rw [blk_set_same hlt] at h3
        cases h3
        exact ⟨_, hb, rfl⟩
      · rw [blk_set_ne hbb] at h3
        exact ⟨k3, h3, rfl⟩
    obtain ⟨k3, h3, h4⟩ := up b1 k1 hk1
    obtain ⟨k4, h5, _⟩ := up b2 k2 hk2
    exact h.inj b1 b2 L1 L2 k3 k4 h1 h2 h3 h5 (by rw [h4]; exact hne) hbb
theorem set_at {H : AH} {b : Nat} {o : Option Blk} (h : H[b]? = some o) : H.set b o = H := by
  apply List.ext_getElem?
  intro i
  rw [List.getElem?_set]
  split
  · rename_i hi
    subst hi
    rw [h, if_pos (List.getElem?_eq_some_iff.1 h).1]
  · rfl
def opsAt : Code → Array Oper
  | .region _ ops _ => ops
  | _ => #[]
def op0 : Oper := ⟨none, .move (.const undef), 0, "", #[], none⟩
theorem noGuard {l : List Oper} (h : l.all (fun o => o.guard.isNone) = true) : ∀ o ∈ l, o.guard = none := fun o ho => by
  have := List.all_eq_true.1 h o ho
  simpa using this
theorem aChk_some {R : Type} {p : Prop} {x : Option R} {r : R} (h : aChk p x = some r) : p ∧ x = some r := by
  unfold aChk at h
  split at h
  · rename_i hp; exact ⟨hp, h⟩
  · cases h
noncomputable section
variable (P : Program) (call : CallF) (n : Nat) (tb : Tbl) (M : Mid)
def resumeP {R : Type} : Code → List Nat → List Nat → EX → List Value → AH → (EX → List Value → AH → Option R) → Option R
  | .seq a b, 0 :: q, 0 :: p, e, T, H, K => resumeP a q p e T H (kSeq (fun T' H' => evalK P call n tb b (cutT tb (3 * firstId b) T') H' K) K)
  | .seq a b, 0 :: q, 1 :: p, e, T, H, K => resume P call n tb a q e T H (kSeq (fun T' H' => evalP P call n tb M b p (cutT tb (3 * firstId b) T') H' K) K)
  | .seq _ b, 1 :: q, 1 :: p, e, T, H, K => resumeP b q p e T H K
  | .seq _ b, 1 :: q, 0 :: _, e, T, H, K => resume P call n tb b q e T H K
  | .block id b, 0 :: q, 0 :: p, e, T, H, K => resumeP b q p e T H (kBlock id K)
  | .scope b, 0 :: q, 0 :: p, e, T, H, K => resumeP b q p e T H K
  | _, _, _, e, T, H, K => K e T H
end
noncomputable def gText (args : List Value) (H : AH) : Option AH :=
  match args with
  | [.pointer (some ⟨hb, 0, none⟩), s] => (ldC H (ptr hb 2)).bind fun mv => (gBits [mv, s] H).map fun H' => H' ++ [none]
  | _ => none
noncomputable def gCommit (args : List Value) (H : AH) : Option AH :=
  match args with
  | [.pointer (some ⟨pb, 0, none⟩), .pointer (some ⟨hb, 0, none⟩)] => (ldC H (ptr pb 2)).bind fun va => (ldC H (ptr hb 2)).bind fun vb => aChk (∀ a, (va = .map (some a) ∨ vb = .map (some a)) → hb ≠ a) ((gKeys [va, vb] H).map fun H' => H' ++ [none])
  | _ => none
theorem gBits_inv {mv s : Value} {H H' : AH} (h : gBits [mv, s] H = some H') : ∃ a b km kb S, mv = .map (some a) ∧ s = .slice (some ⟨b, 0, none⟩) 72 72 ∧ blk H a = some km ∧ km.kind = .map ∧ km.cells = entI S ∧ blk H b = some kb ∧ kb.kind = .fix ∧ a ≠ b ∧ (∀ n ∈ S, 0 ≤ n ∧ n < 512) ∧ kb.cells.length = 72 ∧ kb.cells.drop 8 = List.replicate 64 (.int .u8 0) ∧ H' = put H b kb (kb.cells.take 8 ++ bmV S) := by
  unfold gBits at h
  split at h
  · rename_i mb b heq
    obtain ⟨h1, h2⟩ := List.cons.inj heq
    obtain ⟨h3, _⟩ := List.cons.inj h2
    obtain ⟨km, h4, h⟩ := bind_some h
    obtain ⟨S, h5, h⟩ := bind_some h
    obtain ⟨kb, h6, h⟩ := bind_some h
    obtain ⟨⟨h0, h7, h8, h9, h10⟩, h11⟩ := aChk_some h
    obtain ⟨h12, h13⟩ := mapB_inv h4
    cases h11
    exact ⟨mb, b, km, kb, S, h1, h3, h12, h13, ent_keysI h5, h6, h8, h0, h7, h9, h10, rfl⟩
  · cases h
theorem gKeys_inv {va vb : Value} {H H' : AH} (h : gKeys [va, vb] H = some H') : ∃ a b ka kb S, va = .map (some a) ∧ vb = .map (some b) ∧ blk H a = some ka ∧ ka.kind = .map ∧ ka.cells = entI S ∧ blk H b = some kb ∧ kb.kind = .map ∧ a ≠ b ∧ kb.cells = [] ∧ S.Nodup ∧ H' = put H b kb (entI S) := by
  unfold gKeys at h
  split at h
  · rename_i a b heq
    obtain ⟨h1, h2⟩ := List.cons.inj heq
    obtain ⟨h3, _⟩ := List.cons.inj h2
    obtain ⟨km, h4, h⟩ := bind_some h
    obtain ⟨S, h5, h⟩ := bind_some h
    obtain ⟨kb, h6, h⟩ := bind_some h
    obtain ⟨⟨h0, h7, h8⟩, h11⟩ := aChk_some h
    obtain ⟨h12, h13⟩ := mapB_inv h4
    obtain ⟨h14, h15⟩ := mapB_inv h6
    cases h11
    exact ⟨a, b, km, kb, S, h1, h3, h12, h13, ent_keysI h5, h14, h15, h0, h7, h8, rfl⟩
  · cases h
end Go.AM
namespace Go.AM.E
open Go Go.AM Go.Proofs
noncomputable section
def mText : Mid := ⟨[1, 1, 1, 1, 0], 52, [1, 3], [3], gText⟩
def mCommit : Mid := ⟨[1, 1, 1, 0], 49, [0, 5], [0, 1, 5], gCommit⟩
variable {call : CallF} {n0 : Nat} {tb : Tbl}
noncomputable abbrev cT (p : List Nat) : Code := codeAt (bodyOf Tryz.f87) ([1, 1, 1, 1, 0] ++ p)
abbrev tkT (s x : Value) : List Value := ((List.replicate 52 unk).set 3 s).set 34 x
abbrev t5T (s x : Value) (n : Int) : List Value := ((tkT s x).set 35 (.tuple #[.bool true, .int .i64 n, .bool true])).set 36 (.bool true)
abbrev t6T (s x : Value) (n : Int) : List Value := (((t5T s x n).set 37 (.tuple #[.int .i64 n, .bool true])).set 38 (.int .i64 n)).set 5 (.int .i64 n)
theorem bodyT (s x : Value) (n : Int) (H : AH) : evalK Tryz.prog call n0 tb (cT [1, 0, 0, 1, 1, 0, 1]) (t6T s x n) H (fun e T H => some (e, T, H)) =
    (bin Tryz.prog .quo 3 (.int .i64 n) (.int .i64 8)).bind fun v41 => (bin Tryz.prog .add 3 (.int .i64 8) v41).bind fun v42 => (ixA Tryz.prog 95 s v42).bind fun v43 => (ld Tryz.prog 5 H v43).bind fun v44 =>
      (bin Tryz.prog .rem 3 (.int .i64 n) (.int .i64 8)).bind fun v46 => (bin Tryz.prog .shl 5 (.int .u8 1) v46).bind fun v47 => (bin Tryz.prog .or 5 v44 v47).bind fun v48 => (ixA Tryz.prog 95 s v42).bind fun v49 => (st Tryz.prog 5 H v49 v48).bind fun h =>
      some (.normal, ((((((((((t6T s x n).set 39 s).set 40 (.int .i64 n)).set 41 v41).set 42 v42).set 43 v43).set 44 v44).set 45 (.int .i64 n)).set 46 v46).set 47 v47 |>.set 48 v48).set 49 v49, h) := by kernel_rfl
theorem preT (g : Nat → Value) (H : AH) : evOps Tryz.prog call (opsAt (cT [0])) ((opsAt (cT [0])).toList.take 2) ((List.range 52).map g) H (fun T H => some (T, H)) =
    (fldA Tryz.prog 101 (g 1) 2).bind fun v => (ld Tryz.prog 99 H v).bind fun mv => some ((((List.range 52).map g).set 32 v).set 33 mv, H) := by kernel_rfl
theorem codeT : cT [] = .seq (.region 8 (opsAt (cT [0])) false) (.block 2 (.loop (.seq (.region 9 (opsAt (cT [1, 0, 0, 0])) false) (.seq (.cond (.tmp 36) .skip (.exit 2)) (.block 3 (.seq (.region 10 (opsAt (cT [1, 0, 0, 1, 1, 0, 0])) false) (cT [1, 0, 0, 1, 1, 0, 1]))))))) := by kernel_rfl
theorem ldC_of {t : TypeId} {H : AH} {b o : Nat} {v : Value} (ha : aggT Tryz.prog t = some false) (h : ldC H (ptr b o) = some v) : ld Tryz.prog t H (ptr b o) = some v := by
  unfold ld; rw [ha]; exact h
theorem mText_ok (hcall : CallOK Tryz.prog call) (hdraw : DrawOK Tryz.prog call) (hmix : (Tryz.prog).follows .mixedOrders = true) : MidOK Tryz.prog (bodyOf Tryz.f87) mText := by
  intro T H H' hlen h
  have hT := list_of (n := 52) hlen
  generalize hg : (fun i => T.getD i undef) = g at hT
  have hg1 : T.getD 1 undef = g 1 := by rw [← hg]
  have hg3 : T.getD 3 undef = g 3 := by rw [← hg]
  have h0 : gText [g 1, g 3] H = some H' := by rw [← hg1, ← hg3]; exact h
  clear h
  unfold gText at h0
  split at h0
  case h_2 => cases h0
  rename_i hb s heq
  obtain ⟨q1, q2⟩ := List.cons.inj heq
  obtain ⟨q3, _⟩ := List.cons.inj q2
  obtain ⟨mv, hmv, h0⟩ := bind_some h0
  cases hgb : gBits [mv, s] H with
  | none => rw [hgb] at h0; cases h0
  | some H2 =>
    rw [hgb] at h0
    have hH' : H2 ++ [none] = H' := Option.some.inj h0
    obtain ⟨a, b, km, kb, S, rfl, hs, b1, b2, b3, b4, b5, b6, b7, b8, b9, rfl⟩ := gBits_inv hgb
    have hsv : g 3 = sl b 0 72 72 := q3.trans hs
    have halt := blk_lt' b1
    have hblt := blk_lt' b4
    have hmid : midT mText T = (List.replicate 52 unk).set 3 (g 3) := by rw [hT]; kernel_rfl
    rw [hmid, hT]
    show CodeSim Tryz.prog none (cT []) _ _ _ _ _
    rw [codeT]
    let HS : List Int → AH := fun S' => (kill H a ++ [none]).set b (some ⟨kb.cells.take 8 ++ bmV S', kb.elem, kb.kind⟩)
    have hHS : ∀ S', blk (HS S') b = some ⟨kb.cells.take 8 ++ bmV S', kb.elem, kb.kind⟩ := fun S' => blk_set_same (by simp [kill]; omega)
    refine range_sim hcall hdraw hmix 0 [] (pre := (opsAt (cT [0])).toList.take 2) (oR := (opsAt (cT [0])).toList.getD 2 op0) (r5 := (opsAt (cT [1, 0, 0, 0])).toList.drop 1) (oN := (opsAt (cT [1, 0, 0, 0])).toList.getD 0 op0) (r6 := (opsAt (cT [1, 0, 0, 1, 1, 0, 0])).toList.drop 1) (oE := (opsAt (cT [1, 0, 0, 1, 1, 0, 0])).toList.getD 0 op0)
      (tm := 99) (kt := 3) (et := 4) (mp := 33) (it := 34) (nx := 35) (en := 37) (ok := 36) (by kernel_rfl) (noGuard (by kernel_rfl)) ⟨by kernel_rfl, by kernel_rfl, by kernel_rfl⟩ (by kernel_rfl) (noGuard (by kernel_rfl)) ⟨by kernel_rfl, by kernel_rfl, by kernel_rfl⟩ (by kernel_rfl) (noGuard (by kernel_rfl)) ⟨by kernel_rfl, by kernel_rfl, by kernel_rfl⟩ (by kernel_rfl) (by kernel_rfl)
      (T1 := (((List.range 52).map g).set 32 (ptr hb 2)).set 33 (.map (some a))) (Tk := tkT (g 3) (ptr H.length 0)) (keep := [3, 34]) (keepM := [3]) (a := a) (km := km) (S0 := S) (T5 := t5T (g 3) (ptr H.length 0)) (T6 := t6T (g 3) (ptr H.length 0)) (T5f := ((tkT (g 3) (ptr H.length 0)).set 35 (.tuple #[.bool false])).set 36 (.bool false))
      ?_ (by kernel_rfl) b1 b2 b3 (by kernel_rfl) (by kernel_rfl) (fun n Hs => by kernel_rfl) (fun n => by kernel_rfl) (fun n => by kernel_rfl) (fun n Hs => by kernel_rfl) (fun Hs => by kernel_rfl) (by kernel_rfl) (by kernel_rfl)
      (fun S' Hs => Hs = HS S') ?_ ?_ ?_ ?_
    · rw [preT, show g 1 = ptr hb 0 from q1, show fldA Tryz.prog 101 (ptr hb 0) 2 = some (ptr hb 2) by kernel_rfl, Option.bind_some, ldC_of (by kernel_rfl) hmv, Option.bind_some]
    · refine (set_at ?_).symm
      rw [List.getElem?_append_left (by simp [kill]; exact hblt)]
      unfold kill
      rw [List.getElem?_set_ne b6]
      have := blk_eq.1 b4
      rw [this, bmV_nil, ← b9, List.take_append_drop]
    · rintro S' Hs rfl
      show blk (List.set _ b _) a = none
      rw [blk_set_ne (Ne.symm b6)]
      unfold blk kill
      rw [List.getElem?_append_left (by simpa using halt), List.getElem?_set_self halt]
      rfl
    · rintro S' n Hs rfl hn hnS
      obtain ⟨hn0, hn1⟩ := b7 n hn
      obtain ⟨k, rfl⟩ : ∃ k : Nat, n = k := ⟨n.toNat, by omega⟩
      have hk8 : k / 8 < 64 := by omega
      have hm8 := Nat.mod_lt k (show 0 < 8 by decide)
      rw [bodyT, hsv]
      rw [show bin Tryz.prog .quo 3 (.int .i64 (k : Int)) (.int .i64 8) = some (i64 (k / 8)) from quoL (by omega), Option.bind_some]
      rw [show bin Tryz.prog .add 3 (.int .i64 8) (i64 (k / 8)) = some (i64 (8 + k / 8)) from by rw [bin_add64 (by omega)]; congr 2, Option.bind_some]
      have hx : ixA Tryz.prog 95 (sl b 0 72 72) (i64 (8 + k / 8)) = some (ptr b (8 + k / 8)) := by
        unfold ixA sl
        rw [show Program.underlying Tryz.prog 95 = some (.slice 5) by kernel_rfl]
        dsimp only
        rw [if_pos ⟨by kernel_rfl, by omega, by omega⟩, show szT Tryz.prog 5 = 1 by kernel_rfl]
        simp
        congr 1
      have hl8 : (kb.cells.take 8).length = 8 := by rw [List.length_take]; omega
      have hgc : (kb.cells.take 8 ++ bmV S')[8 + k / 8]? = some (.int .u8 (bm S' (k / 8) : Int)) := by
        rw [List.getElem?_append_right (by omega), hl8, Nat.add_sub_cancel_left, bmV_at _ hk8]
      rw [hx, Option.bind_some]
      rw [ldC_of (H := HS S') (b := b) (o := 8 + k / 8) (v := .int .u8 (bm S' (k / 8) : Int)) (by kernel_rfl) (by
        unfold ldC AM.ptr
        dsimp only
        rw [hHS, Option.bind_some]
        exact hgc), Option.bind_some]
      rw [show bin Tryz.prog .rem 3 (.int .i64 (k : Int)) (.int .i64 8) = some (i64 (k % 8)) from remL (by decide), Option.bind_some]
      have hshl : ∀ q : Nat, q < 8 → bin Tryz.prog .shl 5 (.int .u8 1) (i64 q) = some (u8 (2 ^ q)) := by
        intro q hq
        have hq8 : q = 0 ∨ q = 1 ∨ q = 2 ∨ q = 3 ∨ q = 4 ∨ q = 5 ∨ q = 6 ∨ q = 7 := by omega
        rcases hq8 with h | h | h | h | h | h | h | h <;> (rw [h]; rfl)
      rw [hshl _ hm8, Option.bind_some]
      have h2 : 2 ^ (k % 8) < 2 ^ 8 := Nat.pow_lt_pow_right (by decide) hm8
      have h2' : 2 ^ (k % 8) < 256 := h2
      have hb2 := bm_lt S' (k / 8)
      rw [show bin Tryz.prog .or 5 (.int .u8 (bm S' (k / 8) : Int)) (u8 (2 ^ (k % 8))) = some (u8 (bm S' (k / 8) ||| 2 ^ (k % 8))) by
        rw [bin_or]
        congr 2
        have e1 : IntKind.u8.bits = 8 := rfl
        rw [e1, BitVec.toNat_or]
        rw [show (BitVec.ofInt 8 (bm S' (k / 8) : Int)).toNat = bm S' (k / 8) by rw [BitVec.toNat_ofInt]; omega, show (BitVec.ofInt 8 ((2 ^ (k % 8) : Nat) : Int)).toNat = 2 ^ (k % 8) by
          rw [BitVec.toNat_ofInt]
          have hz := h2'
          generalize 2 ^ (k % 8) = z at hz ⊢
          omega]
        rw [wrapu8]
        have := Nat.or_lt_two_pow (n := 8) hb2 h2
        omega, Option.bind_some, Option.bind_some]
      have hst : st Tryz.prog 5 (HS S') (ptr b (8 + k / 8)) (u8 (bm S' (k / 8) ||| 2 ^ (k % 8))) = some (HS ((k : Int) :: S')) := by
        unfold st
        rw [show aggT Tryz.prog 5 = some false by kernel_rfl]
        dsimp only
        rw [if_pos (by kernel_rfl)]
        unfold stC AM.ptr
        dsimp only
        rw [hHS, Option.bind_some, if_pos ⟨by show BK.wr kb.kind = true; rw [b5]; rfl, by show 8 + k / 8 < (kb.cells.take 8 ++ bmV S').length; rw [List.length_append, hl8, bmV_len]; omega, rfl⟩]
        congr 1
        show List.set (List.set _ b _) b _ = List.set _ b _
        rw [List.set_set]
        congr 3
        dsimp only
        rw [List.set_append_right _ _ (by omega), hl8, Nat.add_sub_cancel_left]
        have := bmV_cons (n := (k : Int)) (S := S') (by rw [Int.toNat_natCast]; exact hk8)
        rw [Int.toNat_natCast] at this
        rw [this]
      rw [hst, Option.bind_some]
      exact ⟨_, _, rfl, by kernel_rfl, rfl⟩
    · rintro S' Hs rfl _ hS
      have e : (HS S').set a (some km) = H' := by
        rw [← hH']
        show ((kill H a ++ [none]).set b _).set a _ = List.set H b _ ++ [none]
        rw [bmV_congr hS]
        apply List.ext_getElem?
        intro i
        have hka : kill H a ++ [none] = (H ++ [none]).set a none := by unfold kill; rw [List.set_append_left _ _ halt]
        have hkb : ∀ o : Option Blk, List.set H b o ++ [none] = (H ++ [none]).set b o := fun o => by rw [List.set_append_left _ _ hblt]
        rw [hka, hkb]
        simp only [List.getElem?_set, List.length_set]
        by_cases h1 : a = i
        · subst h1
          rw [if_pos rfl, if_neg (Ne.symm b6), if_pos (by simp; omega), List.getElem?_append_left halt]
          exact (blk_eq.1 b1).symm
        · rw [if_neg h1]
          by_cases h2 : b = i
          · subst h2; rw [if_pos rfl, if_pos rfl]
          · rw [if_neg h2, if_neg h2, if_neg h1]
      rw [e]
      refine ⟨?_, fun b k' hk => ⟨k', hk, rfl⟩, fun _ _ _ _ R => R⟩
      rw [← e, List.length_set]
noncomputable abbrev cC (p : List Nat) : Code := codeAt (bodyOf Tryz.f14) ([1, 1, 1, 0] ++ p)
abbrev tkC (s0 s1 s5 x : Value) : List Value := ((((List.replicate 49 unk).set 0 s0).set 1 s1).set 5 s5).set 21 x
abbrev t5C (s0 s1 s5 x : Value) (n : Int) : List Value := ((tkC s0 s1 s5 x).set 22 (.tuple #[.bool true, .int .i64 n, .bool true])).set 23 (.bool true)
abbrev t6C (s0 s1 s5 x : Value) (n : Int) : List Value := (((t5C s0 s1 s5 x n).set 24 (.tuple #[.int .i64 n, .bool true])).set 25 (.int .i64 n)).set 6 (.int .i64 n)
theorem bodyC (s0 s1 s5 x : Value) (n : Int) (H : AH) : evalK Tryz.prog call n0 tb (cC [1, 0, 0, 1, 1, 0, 1]) (t6C s0 s1 s5 x n) H (fun e T H => some (e, T, H)) =
    (fldA Tryz.prog 101 s5 2).bind fun v26 => (ld Tryz.prog 99 H v26).bind fun v27 => (mpU Tryz.prog 99 H v27 (.int .i64 n) (.bool true)).bind fun h =>
      some (.normal, (((t6C s0 s1 s5 x n).set 26 v26).set 27 v27).set 28 (.int .i64 n), h) := by kernel_rfl
theorem preC (g : Nat → Value) (H : AH) : evOps Tryz.prog call (opsAt (cC [0])) ((opsAt (cC [0])).toList.take 5) ((List.range 49).map g) H (fun T H => some (T, H)) =
    (nilChk (g 0)).bind fun v17 => (fldA Tryz.prog 103 v17 0).bind fun v18 => (fldA Tryz.prog 101 v18 2).bind fun v19 => (ld Tryz.prog 99 H v19).bind fun mv => some ((((((List.range 49).map g).set 16 (g 0)).set 17 v17).set 18 v18).set 19 v19 |>.set 20 mv, H) := by kernel_rfl
theorem codeC : cC [] = .seq (.region 4 (opsAt (cC [0])) false) (.block 0 (.loop (.seq (.region 5 (opsAt (cC [1, 0, 0, 0])) false) (.seq (.cond (.tmp 23) .skip (.exit 0)) (.block 1 (.seq (.region 6 (opsAt (cC [1, 0, 0, 1, 1, 0, 0])) false) (cC [1, 0, 0, 1, 1, 0, 1]))))))) := by kernel_rfl
theorem mCommit_ok (hcall : CallOK Tryz.prog call) (hdraw : DrawOK Tryz.prog call) (hmix : (Tryz.prog).follows .mixedOrders = true) : MidOK Tryz.prog (bodyOf Tryz.f14) mCommit := by
  intro T H H' hlen h
  have hT := list_of (n := 49) hlen
  generalize hg : (fun i => T.getD i undef) = g at hT
  have hg0 : T.getD 0 undef = g 0 := by rw [← hg]
  have hg5 : T.getD 5 undef = g 5 := by rw [← hg]
  have h0 : gCommit [g 0, g 5] H = some H' := by rw [← hg0, ← hg5]; exact h
  clear h
  unfold gCommit at h0
  split at h0
  case h_2 => cases h0
  rename_i pb hb heq
  obtain ⟨q1, q2⟩ := List.cons.inj heq
  obtain ⟨q3, _⟩ := List.cons.inj q2
  obtain ⟨va, hva, h0⟩ := bind_some h0
  obtain ⟨vb, hvb, h0⟩ := bind_some h0
  obtain ⟨hne, h0⟩ := aChk_some h0
  cases hgb : gKeys [va, vb] H with
  | none => rw [hgb] at h0; cases h0
  | some H2 =>
    rw [hgb] at h0
    have hH' : H2 ++ [none] = H' := Option.some.inj h0
    obtain ⟨a, b, ka, kb, S, rfl, rfl, b1, b2, b3, b4, b5, b6, b7, b8, rfl⟩ := gKeys_inv hgb
    have hna : hb ≠ a := hne a (.inl rfl)
    have hnb : hb ≠ b := hne b (.inr rfl)
    have halt := blk_lt' b1
    have hblt := blk_lt' b4
    have hmid : midT mCommit T = (((List.replicate 49 unk).set 0 (g 0)).set 1 (g 1)).set 5 (g 5) := by rw [hT]; kernel_rfl
    rw [hmid, hT]
    show CodeSim Tryz.prog none (cC []) _ _ _ _ _
    rw [codeC]
    let HS : List Int → AH := fun S' => (kill H a ++ [none]).set b (some ⟨entI S'.reverse, kb.elem, .map⟩)
    have hHS : ∀ S', blk (HS S') b = some ⟨entI S'.reverse, kb.elem, .map⟩ := fun S' => blk_set_same (by simp [kill]; omega)
    have hhb : ∃ kh, blk H hb = some kh ∧ kh.cells[2]? = some (.map (some b)) := by
      unfold ldC AM.ptr at hvb
      exact bind_some hvb
    obtain ⟨kh, h1, h2⟩ := hhb
    have hhlt := blk_lt' h1
    refine range_sim hcall hdraw hmix 0 [] (pre := (opsAt (cC [0])).toList.take 5) (oR := (opsAt (cC [0])).toList.getD 5 op0) (r5 := (opsAt (cC [1, 0, 0, 0])).toList.drop 1) (oN := (opsAt (cC [1, 0, 0, 0])).toList.getD 0 op0) (r6 := (opsAt (cC [1, 0, 0, 1, 1, 0, 0])).toList.drop 1) (oE := (opsAt (cC [1, 0, 0, 1, 1, 0, 0])).toList.getD 0 op0)
      (tm := 99) (kt := 3) (et := 4) (mp := 20) (it := 21) (nx := 22) (en := 24) (ok := 23) (by kernel_rfl) (noGuard (by kernel_rfl)) ⟨by kernel_rfl, by kernel_rfl, by kernel_rfl⟩ (by kernel_rfl) (noGuard (by kernel_rfl)) ⟨by kernel_rfl, by kernel_rfl, by kernel_rfl⟩ (by kernel_rfl) (noGuard (by kernel_rfl)) ⟨by kernel_rfl, by kernel_rfl, by kernel_rfl⟩ (by kernel_rfl) (by kernel_rfl)
      (T1 := (((((List.range 49).map g).set 16 (g 0)).set 17 (ptr pb 0)).set 18 (ptr pb 0)).set 19 (ptr pb 2) |>.set 20 (.map (some a))) (Tk := tkC (g 0) (g 1) (g 5) (ptr H.length 0)) (keep := [0, 1, 5, 21]) (keepM := [0, 1, 5]) (a := a) (km := ka) (S0 := S) (T5 := t5C (g 0) (g 1) (g 5) (ptr H.length 0)) (T6 := t6C (g 0) (g 1) (g 5) (ptr H.length 0)) (T5f := ((tkC (g 0) (g 1) (g 5) (ptr H.length 0)).set 22 (.tuple #[.bool false])).set 23 (.bool false))
      ?_ (by kernel_rfl) b1 b2 b3 (by kernel_rfl) (by kernel_rfl) (fun n Hs => by kernel_rfl) (fun n => by kernel_rfl) (fun n => by kernel_rfl) (fun n Hs => by kernel_rfl) (fun Hs => by kernel_rfl) (by kernel_rfl) (by kernel_rfl)
      (fun S' Hs => Hs = HS S') ?_ ?_ ?_ ?_
    · rw [preC, show g 0 = ptr pb 0 from q1, show nilChk (ptr pb 0) = some (ptr pb 0) by kernel_rfl, Option.bind_some, show fldA Tryz.prog 103 (ptr pb 0) 0 = some (ptr pb 0) by kernel_rfl, Option.bind_some, show fldA Tryz.prog 101 (ptr pb 0) 2 = some (ptr pb 2) by kernel_rfl, Option.bind_some, ldC_of (by kernel_rfl) hva, Option.bind_some]
    · refine (set_at ?_).symm
      rw [List.getElem?_append_left (by simp [kill]; exact hblt)]
      unfold kill
      rw [List.getElem?_set_ne b6]
      have h3 := blk_eq.1 b4
      rw [h3, ← b5]
      congr 2
      obtain ⟨c, e, k⟩ := kb
      show Blk.mk c e k = Blk.mk (entI []) e k
      congr 1
    · rintro S' Hs rfl
      show blk (List.set _ b _) a = none
      rw [blk_set_ne (Ne.symm b6)]
      unfold blk kill
      rw [List.getElem?_append_left (by simpa using halt), List.getElem?_set_self halt]
      rfl
    · rintro S' n Hs rfl hn hnS
      have hld : ldC (HS S') (ptr hb 2) = some (.map (some b)) := by
        unfold ldC AM.ptr
        dsimp only
        have : blk (HS S') hb = some kh := by
          show blk (List.set _ b _) hb = _
          rw [blk_set_ne (Ne.symm hnb)]
          unfold blk kill
          rw [List.getElem?_append_left (by simpa using hhlt), List.getElem?_set_ne (Ne.symm hna)]
          exact h1
        rw [this]
        exact h2
      rw [bodyC, show g 5 = ptr hb 0 from q3, show fldA Tryz.prog 101 (ptr hb 0) 2 = some (ptr hb 2) by kernel_rfl, Option.bind_some, ldC_of (by kernel_rfl) hld, Option.bind_some]
      have hmp : mpU Tryz.prog 99 (HS S') (.map (some b)) (.int .i64 n) (.bool true) = some (HS (n :: S')) := by
        unfold mpU mapB
        rw [show Program.underlying Tryz.prog 99 = some (.map 3 4) by kernel_rfl]
        dsimp only
        rw [show Program.underlying Tryz.prog 3 = some (.int .i64) by kernel_rfl, Option.bind_some, hHS, Option.bind_some, if_pos rfl, Option.bind_some, if_pos ⟨rfl, rfl⟩]
        dsimp only
        rcases keyAt_entI S'.reverse n with ⟨_, h4⟩ | ⟨h3, _⟩
        · rw [h4, Option.map_some]
          dsimp only
          congr 1
          show List.set (List.set _ b _) b _ = List.set _ b _
          rw [List.set_set, List.reverse_cons, entI_snoc]
        · exact (hnS (List.mem_reverse.1 h3)).elim
      rw [hmp, Option.bind_some]
      exact ⟨_, _, rfl, by kernel_rfl, rfl⟩
    · rintro S' Hs rfl hSn hS
      have e : ∀ C, ((kill H a ++ [none]).set b C).set a (some ka) = List.set H b C ++ [none] := by
        intro C
        apply List.ext_getElem?
        intro i
        have hka : kill H a ++ [none] = (H ++ [none]).set a none := by unfold kill; rw [List.set_append_left _ _ halt]
        have hkb : ∀ o : Option Blk, List.set H b o ++ [none] = (H ++ [none]).set b o := fun o => by rw [List.set_append_left _ _ hblt]
        rw [hka, hkb]
        simp only [List.getElem?_set, List.length_set]
        by_cases h1 : a = i
        · subst h1
          rw [if_pos rfl, if_neg (Ne.symm b6), if_pos (by simp; omega), List.getElem?_append_left halt]
          exact (blk_eq.1 b1).symm
        · rw [if_neg h1]
          by_cases h2 : b = i
          · subst h2; rw [if_pos rfl, if_pos rfl]
          · rw [if_neg h2, if_neg h2, if_neg h1]
      have e2 : H' = ((HS S').set a (some ka)).set b (some ⟨entI S, kb.elem, .map⟩) := by
        rw [← hH', e]
        show List.set H b (some ⟨entI S, kb.elem, kb.kind⟩) ++ [none] = _
        rw [b5, List.set_append_left _ _ (by rw [List.length_set]; exact hblt), List.set_set]
      have hb2 : blk ((HS S').set a (some ka)) b = some ⟨entI S'.reverse, kb.elem, .map⟩ := by rw [blk_set_ne b6]; exact hHS S'
      have hperm : S'.reverse.Perm S := (List.reverse_perm S').trans ((List.perm_ext_iff_of_nodup hSn b8).2 hS)
      rw [e2]
      refine ⟨by simp, fun b0 k' hk => ?_, fun _ _ _ _ R => R.permMap hb2 hperm⟩
      by_cases h3 : b = b0
      · subst h3
        rw [blk_set_same (by rw [List.length_set]; show b < (List.set _ b _).length; simp [kill]; omega)] at hk
        cases hk
        exact ⟨_, hb2, rfl⟩
      · rw [blk_set_ne h3] at hk
        exact ⟨k', hk, rfl⟩
end
end Go.AM.E
