/-
  Facts of the abstract evaluator and of the functions that the law reaches, part 4. Conditions: none.
-/
import Derived.ProofKit
import Derived.Deep.Slices
import Derived.DataElems
import Derived.DataReads
import Derived.ChangeArms
import Derived.ChangeSame
import Derived.Test.YtmbffiebfmnhhaaDoorG3PagerKeeps
set_option linter.unusedVariables false
set_option linter.unusedSimpArgs false
set_option linter.unnecessarySimpa false
set_option exponentiation.threshold 200000
set_option maxRecDepth 100000
set_option linter.unusedVariables false
set_option linter.unusedSimpArgs false
namespace Go.AM
open Go.ChangeShapes Go.WideShapes Go.Deep Go.RowKit
variable {P : Program}

structure Ro (P : Program) (W : World) (m : Mp) (H : AH) : Prop where
  rel : Rel P W.heap.size W m H W
  ro : ∀ b k, blk H b = some k → k.kind = .ro
def Sub (m m' : Mp) : Prop := ∀ b L, m b = some L → m' b = some L
theorem Sub.refl (m : Mp) : Sub m m := fun _ _ h => h
theorem Sub.trans {a b c : Mp} (h : Sub a b) (k : Sub b c) : Sub a c := fun x L hx => k x L (h x L hx)
theorem Ro.empty (W : World) : Ro P W (fun _ => none) [] :=
  ⟨⟨Below.refl _ _, Nat.le_refl _, fun _ _ h => (by cases h), fun _ _ _ h => (by cases h), fun _ _ _ _ _ _ h => (by cases h)⟩, fun b k h => (by simp [blk] at h)⟩
def SlOK (W : World) (cs : List Value) : Prop := ∀ a len cap, Value.slice (some a) len cap ∈ cs → a.spot = none ∧ ∃ c e fr, W.heap[a.block]? = some (.cells c e fr)

/-- One more that came in. -/
theorem Ro.add {W : World} {m : Mp} {H : AH} {ks : List Value} {e : TypeId} {bl base : Nat} {c : Array Value} {te : TypeId} {fr : Nat × Nat} (R : Ro P W m H) (hb : W.heap[bl]? = some (.cells c te fr))
    (hl : LRel m ks ((c.toList.drop base).take ks.length)) :
    ∃ m' : Mp, Sub m m' ∧ m' H.length = some ⟨bl, base, .ro, 0, 0⟩ ∧ Ro P W m' (mkB H ks e .ro) := by
  refine ⟨fun b => if b = H.length then some ⟨bl, base, .ro, 0, 0⟩ else m b, ?_, if_pos rfl, ?_⟩
  · intro b L h
    have := (R.rel.dom b L h).1
    show (if b = H.length then _ else m b) = _
    rw [if_neg (by omega)]; exact h
  have hsub : Sub m (fun b => if b = H.length then some ⟨bl, base, .ro, 0, 0⟩ else m b) := by
    intro b L h
    have := (R.rel.dom b L h).1
    show (if b = H.length then _ else m b) = _
    rw [if_neg (by omega)]; exact h
  have hro : ∀ b k, blk (mkB H ks e .ro) b = some k → k.kind = .ro := by
    intro b k h
    by_cases hbn : b < H.length
    · rw [blk_mkB_old hbn] at h; exact R.ro b k h
    · have := blk_lt h
      rw [length_mkB] at this
      have : b = H.length := by omega
      subst this
      rw [blk_mkB_new] at h; cases h; rfl
  refine ⟨⟨R.rel.below, R.rel.hB, ?_, ?_, ?_⟩, hro⟩
  · intro b L h
    replace h : (if b = H.length then some _ else m b) = some L := h
    rw [length_mkB]
    by_cases hb2 : b = H.length
    · rw [if_pos hb2] at h; cases h
      exact ⟨by omega, (Array.getElem?_eq_some_iff.1 hb).1⟩
    · rw [if_neg hb2] at h
      have := R.rel.dom b L h
      exact ⟨by omega, this.2⟩
  · intro b L k h hk
    replace h : (if b = H.length then some _ else m b) = some L := h
    by_cases hb2 : b = H.length
    · rw [if_pos hb2] at h; cases h
      subst hb2
      rw [blk_mkB_new] at hk; cases hk
      exact ⟨rfl, fun _ => ⟨c, te, fr, hb, hl.mono hsub, fun hh => absurd rfl hh, fun hh => (by cases hh), fun hh => (by cases hh), fun hh => (by cases hh), fun hh => (by cases hh)⟩, fun hh => (by cases hh), fun _ _ hh => (by cases hh), fun hh => absurd rfl hh, fun hh => (by cases hh)⟩
    · rw [if_neg hb2] at h
      have hlt := (R.rel.dom b L h).1
      rw [blk_mkB_old hlt] at hk
      have h1 := R.rel.blks b L k h hk
      exact h1.at hsub rfl
  · intro b1 b2 L1 L2 k1 k2 _ _ h1 _ hne _
    exact absurd (hro b1 k1 h1) hne

/-- A kind of datum over the abstract heap. -/
structure Kn (α : Type) where
  K : AH → α → List Value → Prop
  mono : ∀ {H H' : AH} {a : α} {cs : List Value}, Mo H H' → K H a cs → K H' a cs
def Kn.int (k : IntKind) : Kn Int := ⟨fun _ n cs => cs = [.int k n], fun _ h => h⟩
def Kn.bool : Kn Bool := ⟨fun _ n cs => cs = [.bool n], fun _ h => h⟩
def Kn.string : Kn ByteArray := ⟨fun _ n cs => cs = [.string n], fun _ h => h⟩
/-- A slice that came in. -/
def Kn.slice {α : Type} (e : TypeId) (sz : Nat) (d : Kn α) : Kn (List α) :=
  ⟨fun H l cs => (cs = [.slice none 0 0] ∧ l = []) ∨ ∃ (b : Nat) (css : List (List Value)), cs = [sl b 0 l.length (l.length + 1)] ∧ blk H b = some ⟨css.flatten, e, .ro⟩ ∧ css.length = l.length ∧ ∀ (i : Nat) (a : α) (c : List Value), l[i]? = some a → css[i]? = some c → c.length = sz ∧ d.K H a c,
   by
    intro H H' l cs hm h
    rcases h with h | ⟨b, css, h1, h2, h3, h4⟩
    · exact .inl h
    · exact .inr ⟨b, css, h1, hm _ _ h2, h3, fun i a c h5 h6 => ⟨(h4 i a c h5 h6).1, d.mono hm (h4 i a c h5 h6).2⟩⟩⟩
/-- What follows from a cells' list: each is one. -/
def OpA (P : Program) (t : TypeId) {α : Type} (d : Kn α) (G : α → Prop) : Prop :=
  ∀ (Hh : Type) (enc : TypeId × Value → Hh) (W : World) (spare : Nat → Bool) (held : Bool) (fuel : Nat) (cs : List Value) (x : DataW Hh × List MemPlace),
    DataW.trod enc P W 0 spare held fuel t cs = some x → SlOK W cs → ∀ (m : Mp) (H : AH), Ro P W m H →
    ∃ m' H' cs' a, Ro P W m' H' ∧ Sub m m' ∧ Fr H H' ∧ LRel m' cs' cs ∧ d.K H' a cs' ∧ G a
theorem LRel.one {m : Mp} {x y : Value} (h : VRel m x y) : LRel m [x] [y] := LRel.cons h (LRel.nil m)
theorem opA_int {t : TypeId} {k : IntKind} (ht : P.underlying t = some (.int k)) : OpA P t (Kn.int k) (fun n => (Lit.int k n).wf = true) := by
  intro Hh enc W spare held fuel cs x h _ m H R
  obtain ⟨n, rfl, _, hw⟩ := DataW.trod_int ht h
  exact ⟨m, H, _, n, R, Sub.refl m, Fr.refl H, LRel.one (.flat _ rfl), rfl, hw⟩
theorem slOK_cell {W : World} {base : Nat} {u : TypeId} {a : Addr} {len cap : Nat} (h : Cell.okWide P W .any base u (.slice (some a) len cap)) : a.spot = none ∧ ∃ c e fr, W.heap[a.block]? = some (.cells c e fr) := by
  have hc : ∃ e n, W.has P .any base a e n := by
    unfold Cell.okWide at h
    cases hu : P.underlying u with
    | none => rw [hu] at h; simp [Cell.ok, hu] at h
    | some D =>
      rw [hu] at h
      cases D <;> simp [Cell.ok, hu] at h
      exact ⟨_, _, h.2.2⟩
  obtain ⟨e, n, hh⟩ := hc
  obtain ⟨_, h1, row, cells, h2, _⟩ := hh
  refine ⟨h1, ?_⟩
  unfold World.shape? at h2
  split at h2
  · rename_i c' e' fr' hb; exact ⟨c', e', fr', hb⟩
  · cases h2
theorem slOK_of {W : World} {base : Nat} {t : TypeId} {v : Value} (h : Value.okWide P W .any base t v) : SlOK W v.cells.toList := by
  intro a len cap hm
  have key : (∃ u, Cell.okWide P W .any base u (.slice (some a) len cap)) := by
    unfold Value.okWide at h
    split at h
    · obtain ⟨cs, rfl, _, ts, _, _, hr⟩ := h
      obtain ⟨i, hi⟩ := List.getElem?_of_mem hm
      obtain ⟨u, _, hu⟩ := hr i _ (by simpa [Value.cells] using hi)
      exact ⟨u, hu⟩
    · obtain ⟨cs, rfl, _, ts, _, _, hr⟩ := h
      obtain ⟨i, hi⟩ := List.getElem?_of_mem hm
      obtain ⟨u, _, hu⟩ := hr i _ (by simpa [Value.cells] using hi)
      exact ⟨u, hu⟩
    · cases v with
      | agg cs =>
        exfalso
        unfold Cell.okWide at h
        cases hu : P.underlying t with
        | none => rw [hu] at h; simp [Cell.ok, hu] at h
        | some D => rw [hu] at h; cases D <;> simp [Cell.ok, hu] at h
      | slice p l c =>
        simp [Value.cells] at hm
        obtain ⟨rfl, rfl, rfl⟩ := hm
        exact ⟨t, h⟩
      | _ => simp [Value.cells] at hm
  obtain ⟨u, hu⟩ := key
  exact slOK_cell hu
/-- An argument. -/
structure OpV (P : Program) (t : TypeId) {α : Type} (d : Kn α) (G : α → Prop) (KV : AH → α → Value → Prop) : Prop where
  op : OpA P t d G
  val : ∀ (W : World) (base : Nat) (v : Value), Value.okWide P W .any base t v → (∃ cs, v = .agg cs) ∧ (∀ H a cs, d.K H a cs → KV H a (.agg cs.toArray)) ∨ v.cells = #[v] ∧ (∀ H a v, d.K H a [v] → KV H a v)
  mono : ∀ {H H' : AH} {a : α} {v : Value}, Mo H H' → KV H a v → KV H' a v
def KvC {α : Type} (d : Kn α) (H : AH) (a : α) (v : Value) : Prop := d.K H a [v]
theorem opV_cell {t : TypeId} {D : TypeDesc} {α : Type} {d : Kn α} {G : α → Prop} (ht : P.underlying t = some D) (hD : (∀ fs, D ≠ .struct fs) ∧ ∀ n e, D ≠ .array n e) (A : OpA P t d G) : OpV P t d G (KvC d) := by
  refine ⟨A, fun W base v h => .inr ⟨?_, fun H a v h => h⟩, fun hm h => d.mono hm h⟩
  unfold Value.okWide at h
  rw [ht] at h
  have h' : Cell.okWide P W .any base t v := by
    cases D with
    | struct fs => exact absurd rfl (hD.1 fs)
    | array n e => exact absurd rfl (hD.2 n e)
    | _ => exact h
  cases v with
  | agg cs =>
    exfalso
    unfold Cell.okWide at h'
    rw [ht] at h'
    cases D <;> simp [Cell.ok, ht] at h'
  | _ => rfl
/-- All arguments. -/
structure OpAs (P : Program) (ts : List TypeId) {α : Type} (G : α → Prop) (KV : AH → α → List Value → Prop) : Prop where
  op : ∀ (Hh : Type) (enc : TypeId × Value → Hh) (W : World) (base : Nat) (spare : Nat → Bool) (held : Bool) (vs : List Value) (ds : List (DataW Hh)) (ps : List MemPlace),
    DataW.TrodAll enc P W 0 spare held ts vs ds ps → (∀ (j : Nat) t v, ts[j]? = some t → vs[j]? = some v → Value.okWide P W .any base t v) → ∀ (m : Mp) (H : AH), Ro P W m H →
    ∃ m' H' vs' a, Ro P W m' H' ∧ Sub m m' ∧ Fr H H' ∧ LRel m' vs' vs ∧ KV H' a vs' ∧ G a
  mono : ∀ {H H' : AH} {a : α} {vs : List Value}, Mo H H' → KV H a vs → KV H' a vs
theorem opAs_nil : OpAs P [] (fun _ : Unit => True) (fun _ _ vs => vs = []) := by
  refine ⟨?_, fun _ h => h⟩
  intro Hh enc W base spare held vs ds ps h _ m H R
  obtain ⟨rfl, rfl, rfl⟩ := trodAll_nil h
  exact ⟨m, H, [], (), R, Sub.refl m, Fr.refl H, LRel.nil m, rfl, trivial⟩
theorem opAs_cons {t : TypeId} {ts : List TypeId} {α β : Type} {d : Kn α} {G : α → Prop} {KV : AH → α → Value → Prop} {G' : β → Prop} {KV' : AH → β → List Value → Prop} (A : OpV P t d G KV) (B : OpAs P ts G' KV') :
    OpAs P (t :: ts) (fun x : α × β => G x.1 ∧ G' x.2) (fun H x vs => ∃ v vs', vs = v :: vs' ∧ KV H x.1 v ∧ KV' H x.2 vs') := by
  refine ⟨?_, fun hm ⟨v, vs', h1, h2, h3⟩ => ⟨v, vs', h1, A.mono hm h2, B.mono hm h3⟩⟩
  intro Hh enc W base spare held vs ds ps h hv m H R
  obtain ⟨v, vs', d0, ds', p, q, rfl, rfl, rfl, ⟨fuel, h0⟩, hr⟩ := trodAll_cons h
  have hok := hv 0 t v rfl rfl
  obtain ⟨m2, H2, us, y2, R2, s2, f2, l2, k2, g2⟩ := B.op Hh enc W base spare held vs' ds' q hr (fun j t' v' h1 h2 => hv (j + 1) t' v' h1 h2) m H R
  obtain ⟨m1, H1, cs', y1, R1, s1, f1, l1, k1, g1⟩ := A.op Hh enc W spare held fuel _ _ h0 (slOK_of hok) m2 H2 R2
  rcases A.val W base v hok with ⟨⟨cs, rfl⟩, hk⟩ | ⟨hc, hk⟩
  · exact ⟨m1, H1, .agg cs'.toArray :: us, (y1, y2), R1, s2.trans s1, f2.trans f1, LRel.cons (VRel.aggL (by simpa [Value.cells] using l1)) (l2.mono s1), ⟨_, _, rfl, hk _ _ _ k1, B.mono f1.mo k2⟩, g1, g2⟩
  · rw [hc] at l1
    obtain ⟨x, rfl⟩ : ∃ x, cs' = [x] := List.length_eq_one_iff.1 l1.1
    exact ⟨m1, H1, x :: us, (y1, y2), R1, s2.trans s1, f2.trans f1, LRel.cons (l1.2 0 x v rfl rfl) (l2.mono s1), ⟨_, _, rfl, hk _ _ _ k1, B.mono f1.mo k2⟩, g1, g2⟩
theorem rgFind_mem : ∀ (l : List (Array Tmp × Code × Code)) (x : Array Tmp × Code × Code), nodupB (l.map fun x => firstId x.2.2) = true → x ∈ l → rgFind (firstId x.2.2) l = some x
  | [], x, _, h => by cases h
  | y :: l, x, hn, h => by
    simp only [List.map_cons, nodupB, Bool.and_eq_true, Bool.not_eq_true'] at hn
    unfold rgFind
    cases h with
    | head => simp
    | tail _ h =>
      have hne : (firstId y.2.2 == firstId x.2.2) = false := by
        cases he : firstId y.2.2 == firstId x.2.2 with
        | false => rfl
        | true =>
          exfalso
          have h1 : firstId y.2.2 = firstId x.2.2 := by simpa using he
          have h2 : (l.map fun x => firstId x.2.2).contains (firstId y.2.2) = true := by
            rw [List.contains_iff_mem, h1]
            exact List.mem_map.2 ⟨x, h, rfl⟩
          rw [h2] at hn
          cases hn.1
      rw [hne]
      exact rgFind_mem l x hn.2 h
theorem ranges_go {tbs : FuncId → Tbl} : ∀ (l : List Func) (i : Nat), rangesGo tbs i l = true → ∀ (j : Nat) (fn : Func) (c : Code), l[j]? = some fn → fn.body = some c → rgs c = [] ∨ (fidOf (tbs (i + j)) = i + j ∧ nodupB ((rgs c).map fun x => firstId x.2.2) = true)
  | [], i, _, j, fn, c, h, _ => by simp at h
  | f0 :: l, i, h, 0, fn, c, hj, hc => by
    simp only [List.getElem?_cons_zero, Option.some.injEq] at hj
    subst hj
    simp only [rangesGo, hc, Bool.and_eq_true, Bool.or_eq_true] at h
    rcases h.1 with h1 | h1
    · exact .inl (List.isEmpty_iff.1 h1)
    · exact .inr ⟨by simpa using h1.1, h1.2⟩
  | f0 :: l, i, h, j + 1, fn, c, hj, hc => by
    simp only [rangesGo, Bool.and_eq_true] at h
    have := ranges_go l (i + 1) h.2 j fn c (by simpa using hj) hc
    rwa [show i + 1 + j = i + (j + 1) by omega] at this
theorem ranges_ok {P : Program} {tbs : FuncId → Tbl} (h : rangesB P tbs = true) : RangesOK P tbs := by
  intro f fn c hf hc
  rcases ranges_go _ 0 h f fn c (by rw [Array.getElem?_toList]; exact hf) hc with h1 | ⟨h1, h2⟩
  · exact .inl h1
  · rw [Nat.zero_add] at h1
    refine .inr ⟨h1, fun x hx => ?_⟩
    unfold rangeAt
    rw [hf, Option.bind_some, hc, Option.bind_some]
    exact rgFind_mem _ x h2 hx
/-- Behind a call: nothing that was there is another. -/
theorem walk_of {W : World} {f : FuncId} {args vs : List Value} {m : Mp} {H H' : AH} {v : Value} {call : CallF} (hc : CallOK P call) (R : Ro P W m H) (hl : LRel m args vs) (h : call f args H = some (v, H')) (hf : flat1 v = true) (hy : f < yOff := by unfold yOff; omega) :
    Calls P f vs.toArray W fun e W' => e = .returned v ∧ Below W.heap.size W W' := by
  refine ((hc.1 f args H v H' hy h).2 W.heap.size W m W vs R.rel hl).mono fun e w' ⟨m', v', he, hv, hr, _⟩ => ?_
  rw [VRel.flat_inv hf hv] at he
  exact ⟨he, hr.below⟩
end Go.AM
set_option linter.unusedVariables false
set_option linter.unusedSimpArgs false
set_option maxRecDepth 100000
namespace Go.AM.G
open Go Go.AM Go.Proofs
attribute [local irreducible] run bin un ld st box newV mkS fldA fld ixA ix slc slc3 build buildS cv cvS ap cpy lenV gOp pickV b2 aIf aChk evalK resume iterD Option.bind

section
variable {B B0 H0 H : AH} {L : List (Nat × Blk)}
def flagK (bits : Int) (i : Nat) : Bool := decide ((bits.fdiv (2 ^ (min (i : Int).toNat IntKind.i64.bits))).tmod 2 ≠ 0)
def keysK (bits : Int) (i : Nat) : List Int := ((List.range i).filter fun j => flagK bits j).map fun (j : Nat) => ((j + 2 : Nat) : Int)
theorem keysK_succ (bits : Int) (i : Nat) : keysK bits (i + 1) = keysK bits i ++ (if flagK bits i = true then [((i + 2 : Nat) : Int)] else []) := by
  unfold keysK
  rw [List.range_succ, List.filter_append, List.map_append]
  congr 1
  rw [List.filter_cons, List.filter_nil]
  split <;> rfl
theorem keysK_mem {bits : Int} {i : Nat} {x : Int} (h : x ∈ keysK bits i) : 2 ≤ x ∧ x < i + 2 := by
  unfold keysK at h
  obtain ⟨j, hj, rfl⟩ := List.mem_map.1 h
  have := List.mem_range.1 (List.mem_filter.1 hj).1
  omega
theorem keysK_nodup (bits : Int) (i : Nat) : (keysK bits i).Nodup := nodup_map (fun a b h => by omega) (List.filter_sublist.nodup List.nodup_range)
theorem keysK_len (bits : Int) (i : Nat) : (keysK bits i).length ≤ i := by
  unfold keysK
  rw [List.length_map]
  exact Nat.le_trans (List.length_filter_le _ _) (by simp)
theorem keeps_L0 {p dv s0 s1 s5 : Value} : ∀ (q j : Nat) (B H : AH) (Ls : List (Nat × Blk)) (D : Dsk), j + q = 10 → D.Up (2 * 12) → D.cache.length = 2 * j → PK p dv ⟨1, 0, [0, 1], frs j, false⟩ D Ls → St H0 B0 B (Ls ++ L) H →
    Ev (fun k K => f4_L0 k s0 s1 s5 p (i64 j) K H) (fun o => ∃ B' Ls' H' D', o = (.exit 0, f4_X_L0 s0 s1 unk s5 p, H') ∧ MoC B B' ∧ D'.Up (2 * 12) ∧ D'.cache.length = 20 ∧ PK p dv ⟨1, 0, [0, 1], frs 10, false⟩ D' Ls' ∧ St H0 B0 B' (Ls' ++ L) H') := by
  intro q
  induction q with
  | zero =>
    intro j B H Ls D hj hU hc hP hS
    refine Ev.succ (fun k K => f4_L0_succ k _ _ _ _ _ K H) ?_
    have : j = 10 := by omega
    subst this
    repeat (first | (first | refine Ev.s ?_ | refine Ev.newC fun _ _ _ => ?_ | refine Ev.boxC fun _ _ _ => ?_ | refine Ev.stC fun _ _ => ?_ | refine Ev.sc (by omega) ?_ | refine Ev.scg (by omega) ?_) | rw [decide_eq_true (by omega)] | rw [decide_eq_false (by omega)])
    exact Ev.ret ⟨B, Ls, H, D, rfl, ⟨Mo.refl B⟩, hU, hc, hP, hS⟩
  | succ q ih =>
    intro j B H Ls D hj hU hc hP hS
    have hdn : D.n / 2 = 12 := by have := hU.n; omega
    refine Ev.succ (fun k K => f4_L0_succ k _ _ _ _ _ K H) ?_
    repeat (first | (first | refine Ev.s ?_ | refine Ev.newC fun _ _ _ => ?_ | refine Ev.boxC fun _ _ _ => ?_ | refine Ev.stC fun _ _ => ?_ | refine Ev.sc (by omega) ?_ | refine Ev.scg (by omega) ?_) | rw [decide_eq_true (by omega)] | rw [decide_eq_false (by omega)])
    refine Ev.b2 (Alloc_spec hP hU.ok (by rw [frs_len]; omega) hS) ?_
    rw [hdn, alloc_frs (j := j) rfl rfl rfl (by omega)]
    rintro _ H1 ⟨rfl, Ls1, B1, hm1, hP1, hS1⟩
    dsimp only at hS1 hP1
    repeat (first | (first | refine Ev.s ?_ | refine Ev.newC fun _ _ _ => ?_ | refine Ev.boxC fun _ _ _ => ?_ | refine Ev.stC fun _ _ => ?_ | refine Ev.sc (by omega) ?_ | refine Ev.scg (by omega) ?_) | rw [decide_eq_true (by omega)] | rw [decide_eq_false (by omega)])
    obtain ⟨D2, e2, u2, c2, pg2⟩ := hU.gwrite (G := ⟨1, 0, [0, 1], frs (j + 1), false⟩) (n := j + 2) (k := 2) (t := [120]) rfl (by omega) (frs_mem.2 (by omega)) (by decide) (by decide) (by decide) (by decide)
    refine Ev.b2 (Write_specP (n := ((j + 2 : Nat) : Int)) (kind := ((2 : Nat) : Int)) (t := [120]) hP1 hU.ok (by omega) (by rw [frs_len]; omega) (by decide) (by decide) hS1) ?_
    rw [e2]
    rintro _ H2 ⟨rfl, Ls2, B2, hm2, hP2, hS2⟩
    dsimp only at hS2 hP2
    repeat (first | (first | refine Ev.s ?_ | refine Ev.newC fun _ _ _ => ?_ | refine Ev.boxC fun _ _ _ => ?_ | refine Ev.stC fun _ _ => ?_ | refine Ev.sc (by omega) ?_ | refine Ev.scg (by omega) ?_) | rw [decide_eq_true (by omega)] | rw [decide_eq_false (by omega)])
    refine (ih (j + 1) B2 H2 Ls2 D2 (by omega) u2 (by omega) hP2 hS2).mono ?_
    rintro o ⟨B', Ls', H', D', rfl, hm', u', c', hP', hS'⟩
    exact ⟨B', Ls', H', D', rfl, ⟨hm1.mo.trans (hm2.mo.trans hm'.mo)⟩, u', c', hP', hS'⟩
theorem keeps_L1 {bits : Int} {s1 s5 s8 s13 s14 : Value} : ∀ (q i : Nat) (v : Value) (B1 H : AH), i + q = 10 → MoC B B1 → GAcc 3 1 H0 B0 B1 L H v (keysK bits i).length (intV (keysK bits i)) →
    Ev (fun k K => f4_L1 k (.int .i64 bits) s1 s5 s8 s13 s14 v (i64 i) K H) (fun o => ∃ v' B' H', o = (.exit 2, f4_X_L1 s1 s5 s8 s13 s14 v', H') ∧ MoC B B' ∧ GAcc 3 1 H0 B0 B' L H' v' (keysK bits 10).length (intV (keysK bits 10))) := by
  intro q
  induction q with
  | zero =>
    intro i v B1 H hi hB1 hG
    refine Ev.succ (fun k K => f4_L1_succ k _ _ _ _ _ _ _ _ K H) ?_
    have : i = 10 := by omega
    subst this
    repeat (first | (first | refine Ev.s ?_ | refine Ev.newC fun _ _ _ => ?_ | refine Ev.boxC fun _ _ _ => ?_ | refine Ev.stC fun _ _ => ?_ | refine Ev.sc (by omega) ?_ | refine Ev.scg (by omega) ?_) | rw [decide_eq_true (by omega)] | rw [decide_eq_false (by omega)])
    exact Ev.ret ⟨v, B1, H, rfl, hB1, hG⟩
  | succ q ih =>
    intro i v B1 H hi hB1 hG
    have hSt := hG.st
    refine Ev.succ (fun k K => f4_L1_succ k _ _ _ _ _ _ _ _ K H) ?_
    repeat (first | (first | refine Ev.s ?_ | refine Ev.newC fun _ _ _ => ?_ | refine Ev.boxC fun _ _ _ => ?_ | refine Ev.stC fun _ _ => ?_ | refine Ev.sc (by omega) ?_ | refine Ev.scg (by omega) ?_) | rw [decide_eq_true (by omega)] | rw [decide_eq_false (by omega)])
    refine Ev.prim (bin_shr (by omega)) ?_
    refine Ev.prim (bin_rem (by decide)) ?_
    refine Ev.prim bin_neq ?_
    rw [show (decide ((bits.fdiv (2 ^ (min (i : Int).toNat IntKind.i64.bits))).tmod 2 ≠ 0)) = flagK bits i from rfl]
    have hs := keysK_succ bits i
    have hlen := keysK_len bits i
    cases hf : flagK bits i with
    | true =>
      rw [hf, if_pos rfl] at hs
      repeat (first | (first | refine Ev.s ?_ | refine Ev.newC fun _ _ _ => ?_ | refine Ev.boxC fun _ _ _ => ?_ | refine Ev.stC fun _ _ => ?_ | refine Ev.sc (by omega) ?_ | refine Ev.scg (by omega) ?_) | rw [decide_eq_true (by omega)] | rw [decide_eq_false (by omega)])
      refine GAcc.push (t := 33) (x := i64 (i + 2)) (ds := [i64 (i + 2)]) hG rfl rfl rfl rfl (by decide) (by omega) fun v' B' H' hm' hG' => ?_
      repeat (first | (first | refine Ev.s ?_ | refine Ev.newC fun _ _ _ => ?_ | refine Ev.boxC fun _ _ _ => ?_ | refine Ev.stC fun _ _ => ?_ | refine Ev.sc (by omega) ?_ | refine Ev.scg (by omega) ?_) | rw [decide_eq_true (by omega)] | rw [decide_eq_false (by omega)])
      refine ih (i + 1) v' B' H' (by omega) ⟨hB1.mo.trans hm'.mo⟩ ?_
      rw [hs, intV_snoc, List.length_append]
      exact hG'
    | false =>
      rw [hf, if_neg (by decide), List.append_nil] at hs
      repeat (first | (first | refine Ev.s ?_ | refine Ev.newC fun _ _ _ => ?_ | refine Ev.boxC fun _ _ _ => ?_ | refine Ev.stC fun _ _ => ?_ | refine Ev.sc (by omega) ?_ | refine Ev.scg (by omega) ?_) | rw [decide_eq_true (by omega)] | rw [decide_eq_false (by omega)])
      refine ih (i + 1) v B1 H (by omega) hB1 ?_
      rw [hs]
      exact hG
theorem keeps_L2 {p dv s1 s5 s13 s14 s15 s17 s18 s19 s20 s21 : Value} {D : Dsk} (hU : D.Up (2 * 12)) : ∀ (q i c : Nat) (B H : AH) (Ls : List (Nat × Blk)) (G : Pgr), i + q = 12 → c ≤ i → G.down = false → G.fresh.length ≤ i → PK p dv G D Ls → St H0 B0 B (Ls ++ L) H →
    Ev (fun k K => f4_L2 k s1 s5 p s13 s14 s15 s17 s18 s19 s20 s21 (i64 c) (i64 i) K H) (fun o => ∃ H', o = (.exit 4, f4_X_L2 s1 s5 s13 s14 s15 s17 s18 s19 s20 s21 (i64 (c + min q (G.left 12))), H')) := by
  intro q
  have hdn : D.n / 2 = 12 := by have := hU.n; omega
  induction q with
  | zero =>
    intro i c B H Ls G hi hci hd hf hP hS
    refine Ev.succ (fun k K => f4_L2_succ k _ _ _ _ _ _ _ _ _ _ _ _ _ K H) ?_
    have : i = 12 := by omega
    subst this
    repeat (first | (first | refine Ev.s ?_ | refine Ev.newC fun _ _ _ => ?_ | refine Ev.boxC fun _ _ _ => ?_ | refine Ev.stC fun _ _ => ?_ | refine Ev.sc (by omega) ?_ | refine Ev.scg (by omega) ?_) | rw [decide_eq_true (by omega)] | rw [decide_eq_false (by omega)])
    rw [Nat.zero_min, Nat.add_zero]
    exact Ev.ret ⟨H, rfl⟩
  | succ q ih =>
    intro i c B H Ls G hi hci hd hf hP hS
    refine Ev.succ (fun k K => f4_L2_succ k _ _ _ _ _ _ _ _ _ _ _ _ _ K H) ?_
    repeat (first | (first | refine Ev.s ?_ | refine Ev.newC fun _ _ _ => ?_ | refine Ev.boxC fun _ _ _ => ?_ | refine Ev.stC fun _ _ => ?_ | refine Ev.sc (by omega) ?_ | refine Ev.scg (by omega) ?_) | rw [decide_eq_true (by omega)] | rw [decide_eq_false (by omega)])
    refine Ev.b2 (Alloc_spec hP hU.ok (by omega) hS) ?_
    rw [hdn]
    rcases alloc_left (m := 12) hd with ⟨h0, e⟩ | ⟨n, hn, e, hl⟩
    · rw [e]
      rintro _ H1 ⟨rfl, Ls1, B1, hm1, hP1, hS1⟩
      dsimp only at hS1 hP1
      repeat (first | refine Ev.s ?_ | refine Ev.newC fun _ _ _ => ?_ | refine Ev.boxC fun _ _ _ => ?_ | refine Ev.stC fun _ _ => ?_ | refine Ev.sc (by omega) ?_ | refine Ev.scg (by omega) ?_)
      dsimp only
      rw [show decide ((6 : Int) = 0) = false from rfl]
      repeat (first | (first | refine Ev.s ?_ | refine Ev.newC fun _ _ _ => ?_ | refine Ev.boxC fun _ _ _ => ?_ | refine Ev.stC fun _ _ => ?_ | refine Ev.sc (by omega) ?_ | refine Ev.scg (by omega) ?_) | rw [decide_eq_true (by omega)] | rw [decide_eq_false (by omega)])
      refine (ih (i + 1) c B1 H1 Ls1 G (by omega) (by omega) hd (by omega) hP1 hS1).mono ?_
      rintro o ⟨H', rfl⟩
      rw [h0, Nat.min_zero, Nat.min_zero]
      exact ⟨H', rfl⟩
    · rw [e]
      rintro _ H1 ⟨rfl, Ls1, B1, hm1, hP1, hS1⟩
      dsimp only at hS1 hP1
      repeat (first | (first | refine Ev.s ?_ | refine Ev.newC fun _ _ _ => ?_ | refine Ev.boxC fun _ _ _ => ?_ | refine Ev.stC fun _ _ => ?_ | refine Ev.sc (by omega) ?_ | refine Ev.scg (by omega) ?_) | rw [decide_eq_true (by omega)] | rw [decide_eq_false (by omega)])
      refine (ih (i + 1) (c + 1) B1 H1 Ls1 { G with fresh := G.fresh ++ [(n : Int)] } (by omega) (by omega) hd (by show (G.fresh ++ [(n : Int)]).length ≤ i + 1; rw [List.length_append]; simp; omega) hP1 hS1).mono ?_
      rintro o ⟨H', rfl⟩
      rw [hl, show c + min (q + 1) (Pgr.left { G with fresh := G.fresh ++ [(n : Int)] } 12 + 1) = c + 1 + min q (Pgr.left { G with fresh := G.fresh ++ [(n : Int)] } 12) by omega]
      exact ⟨H', rfl⟩
/-- The end of the law, by what came before. -/
theorem keeps_J0 {o : Int} {tn n many free h rt f1 : Nat} {s15 : Value} (hl : lenV Tryd.prog 33 s15 = some (i64 n)) (hn : n ≤ 10)
    (hc : (o = 0 ∧ rt = 0 ∧ tn = 3 ∧ f1 = 3 ∧ (n = 0 ∧ h = 0 ∨ n ≠ 0 ∧ h = 1)) ∨ (o ≠ 0 ∧ rt = 1 ∧ tn = 2 ∧ f1 = 2 ∧ h = 0 ∧ many = n + 2 ∧ free = 10 - n)) :
    Ev (fun k _ => f4_J0 k (.int .i64 o) (.bool true) (i64 8) (i64 0) s15 (i64 1) (i64 rt) (i64 tn) (i64 h) (i64 many) (i64 free) (i64 f1) H) (fun r => r.1 = .bool true) := by
  refine Ev.eq (fun k _ => f4_J0_eq k _ _ _ _ _ _ _ _ _ _ _ _ H) ?_
  rcases hc with ⟨rfl, rfl, rfl, rfl, hh⟩ | ⟨ho, rfl, rfl, rfl, rfl, rfl, rfl⟩
  · repeat (first | (first | refine Ev.s ?_ | refine Ev.newC fun _ _ _ => ?_ | refine Ev.boxC fun _ _ _ => ?_ | refine Ev.stC fun _ _ => ?_ | refine Ev.sc (by omega) ?_ | refine Ev.scg (by omega) ?_) | rw [decide_eq_true (by omega)] | rw [decide_eq_false (by omega)])
    rw [hl, Option.bind_some]
    rcases hh with ⟨rfl, rfl⟩ | ⟨hn0, rfl⟩
    · repeat (first | (first | refine Ev.s ?_ | refine Ev.newC fun _ _ _ => ?_ | refine Ev.boxC fun _ _ _ => ?_ | refine Ev.stC fun _ _ => ?_ | refine Ev.sc (by omega) ?_ | refine Ev.scg (by omega) ?_) | rw [decide_eq_true (by omega)] | rw [decide_eq_false (by omega)])
      exact Ev.ret rfl
    · repeat (first | (first | refine Ev.s ?_ | refine Ev.newC fun _ _ _ => ?_ | refine Ev.boxC fun _ _ _ => ?_ | refine Ev.stC fun _ _ => ?_ | refine Ev.sc (by omega) ?_ | refine Ev.scg (by omega) ?_) | rw [decide_eq_true (by omega)] | rw [decide_eq_false (by omega)])
      try rw [hl, Option.bind_some]
      repeat (first | (first | refine Ev.s ?_ | refine Ev.newC fun _ _ _ => ?_ | refine Ev.boxC fun _ _ _ => ?_ | refine Ev.stC fun _ _ => ?_ | refine Ev.sc (by omega) ?_ | refine Ev.scg (by omega) ?_) | rw [decide_eq_true (by omega)] | rw [decide_eq_false (by omega)])
      exact Ev.ret rfl
  · repeat (first | (first | refine Ev.s ?_ | refine Ev.newC fun _ _ _ => ?_ | refine Ev.boxC fun _ _ _ => ?_ | refine Ev.stC fun _ _ => ?_ | refine Ev.sc (by omega) ?_ | refine Ev.scg (by omega) ?_) | rw [decide_eq_true (by omega)] | rw [decide_eq_false (by omega)])
    rw [hl, Option.bind_some]
    repeat (first | (first | refine Ev.s ?_ | refine Ev.newC fun _ _ _ => ?_ | refine Ev.boxC fun _ _ _ => ?_ | refine Ev.stC fun _ _ => ?_ | refine Ev.sc (by omega) ?_ | refine Ev.scg (by omega) ?_) | rw [decide_eq_true (by omega)] | rw [decide_eq_false (by omega)])
    try rw [hl, Option.bind_some]
    repeat (first | (first | refine Ev.s ?_ | refine Ev.newC fun _ _ _ => ?_ | refine Ev.boxC fun _ _ _ => ?_ | refine Ev.stC fun _ _ => ?_ | refine Ev.sc (by omega) ?_ | refine Ev.scg (by omega) ?_) | rw [decide_eq_true (by omega)] | rw [decide_eq_false (by omega)])
    exact Ev.ret rfl
theorem okG {t : Nat} {U F : List Int} (hU : U.Nodup) (hu : ∀ x ∈ U, 0 ≤ x ∧ x < ((12 : Nat) : Int)) (hf : ∀ x ∈ F, 0 ≤ x ∧ x < ((12 : Nat) : Int)) (hl : F.length ≤ 12) (ht : t < 10) : Pgr.OK ⟨t, 0, U, F, false⟩ 12 :=
  ⟨by decide, hU, hu, hf, hl, by show t < _; omega, (by show (0 : Int) ≤ 0 ∧ (0 : Int) < 512; decide)⟩
theorem scn_nil {B : AH} : ScN B (.slice none 0 0) 0 1 [] := .inl ⟨rfl, rfl, rfl⟩
theorem keeps_tail {p dv : Value} {D : Dsk} {Ls : List (Nat × Blk)} {bits o : Int} (hU : D.Up (2 * 12)) (hc : D.cache.length = 20) (hP : PK p dv ⟨1, 0, [0, 1], frs 10, false⟩ D Ls) (hS : St H0 B0 B (Ls ++ L) H) :
    Ev (fun k _ => f4_A0 k (.exit 0) (f4_X_L0 (.int .i64 bits) (.int .i64 o) unk (.bool true) p) H) (fun r => r.1 = .bool true) := by
  have hdn : D.n / 2 = 12 := by have := hU.n; omega
  have nil_len : lenV Tryd.prog 33 (.slice none 0 0) = some (i64 ([] : List Int).length) := by kernel_rfl
  have hf10 : ∀ x ∈ frs 10, 0 ≤ x ∧ x < ((12 : Nat) : Int) := fun x hx => by have := frs_mem.1 hx; omega
  have h01 : ∀ x ∈ ([0, 1] : List Int), 0 ≤ x ∧ x < ((12 : Nat) : Int) := fun x hx => by simp at hx; omega
  have n01 : ([0, 1] : List Int).Nodup := by decide
  refine Ev.eq (fun k _ => f4_A0_x0 k _ _ _ _ _ H) ?_
  refine Ev.b2 (Keep_spec (root := 0) (l := []) (m := 12) hP hU.ok (okG n01 h01 hf10 (by rw [frs_len]; decide) (by decide)) (by omega) scn_nil nil_len (by decide) hS) ?_
  have e1 : Pgr.keep ⟨1, 0, [0, 1], frs 10, false⟩ D 0 [] = (8, ⟨1, 0, [0, 1], frs 10, false⟩, D) := rfl
  rw [e1]
  clear hS
  rintro _ H1 ⟨rfl, Ls1, B1, hm1, hP1, hS1⟩
  dsimp only at hS1 hP1
  obtain ⟨D2, e2, u2, c2, pg2⟩ := hU.gcommit (G := ⟨1, 0, [0, 1], frs 10, false⟩) (r := 0) rfl (by decide) (by decide) rfl
  have hU2n : (addAll [0, 1] (frs 10)).Nodup := addAll_nodup _ _ n01
  have hU2 : ∀ x ∈ addAll [0, 1] (frs 10), 0 ≤ x ∧ x < ((12 : Nat) : Int) := fun x hx => by
    rcases (addAll_mem _ _ _).1 hx with h | h
    · exact h01 x h
    · exact hf10 x h
  have hU2m : ∀ x, 0 ≤ x → x < 12 → x ∈ addAll [0, 1] (frs 10) := fun x h0 h1 => by
    refine (addAll_mem _ _ _).2 ?_
    by_cases h : x < 2
    · left; simp; omega
    · right; exact frs_mem.2 (by omega)
  refine Ev.b2 (Commit_spec (root := 0) (m := 12) hP1 hU.ok (okG n01 h01 hf10 (by rw [frs_len]; decide) (by decide)) (by omega) hS1) ?_
  rw [show Pgr.commit ⟨1, 0, [0, 1], frs 10, false⟩ D 0 = _ from e2]
  clear hS1
  rintro _ H2 ⟨rfl, Ls2, B2, hm2, hP2, hS2⟩
  dsimp only at hS2 hP2
  replace hP2 : PK p dv ⟨2, 0, addAll [0, 1] (frs 10), [], false⟩ D2 Ls2 := hP2
  generalize addAll [0, 1] (frs 10) = U2 at hU2n hU2 hU2m hP2 pg2
  refine Ev.bind (Ev.loop (keeps_L1 (bits := bits) 10 0 _ B2 H2 (by decide) ⟨Mo.refl B2⟩ (.inl ⟨rfl, rfl, .inl rfl, hS2⟩))) ?_
  clear hS2
  rintro _ ⟨s15, B3, H3, rfl, hm3, hG3⟩
  refine Ev.eq (fun k _ => f4_A1_x2 k _ _ _ _ _ _ H3) ?_
  obtain ⟨B4, hm4, hsc, hS4⟩ := hG3.freeze
  clear hG3
  have hlm : ∀ x ∈ keysK bits 10, 2 ≤ x ∧ x < 12 := fun x hx => by have := keysK_mem hx; omega
  have hln := keysK_nodup bits 10
  have hll := keysK_len bits 10
  generalize keysK bits 10 = l at hsc hlm hln hll
  have hlen15 := hsc.len (Und.eq (P := Tryd.prog) (t := 33))
  -- append([]int(nil), l...), and 1
  refine GAcc.more (t := 33) (u := 33) (Und.eq (P := Tryd.prog) (t := 33)) (GAcc.nil hS4) (hsc.mono hS4.le) (by simp [intV, isCell]) (by omega) fun v5 B5 H5 hm5 hG5 => ?_
  clear hS4
  refine GAcc.push (t := 33) (x := .int .i64 1) (ds := [.int .i64 1]) hG5 rfl rfl rfl rfl (by decide) (by omega) fun v6 B6 H6 hm6 hG6 => ?_
  clear hG5
  obtain ⟨B7, hm7, hsc7, hS7⟩ := hG6.freeze
  clear hG6
  have e7 : [] ++ intV l ++ [Value.int .i64 1] = intV (l ++ [1]) := by rw [List.nil_append, intV_snoc]
  rw [e7] at hsc7
  have hsc7' : ScN B7 v6 (l ++ [1]).length 1 (intV (l ++ [1])) := by rw [List.length_append]; simpa using hsc7
  have hmB : Mo B4 B7 := hm5.mo.trans (hm6.mo.trans hm7.mo)
  have hG2 : Pgr.OK ⟨2, 0, U2, [], false⟩ 12 := okG hU2n hU2 (fun x hx => by cases hx) (by decide) (by decide)
  refine Ev.b2 (Keep_spec (root := 0) (l := l ++ [1]) (m := 12) hP2 u2.ok hG2 (by rw [c2]; decide) hsc7' (hsc7'.len (Und.eq (P := Tryd.prog) (t := 33))) (by rw [List.length_append]; simp; omega) hS7) ?_
  have e8 : Pgr.keep ⟨2, 0, U2, [], false⟩ D2 0 (l ++ [1]) = (1, ⟨2, 0, U2, [], false⟩, D2) := by
    unfold Pgr.keep
    dsimp only
    rw [if_neg (by decide), if_neg (by simp), if_pos]
    unfold keepOK
    rw [List.all_append]
    simp
  rw [e8]
  clear hS7
  rintro _ H8 ⟨rfl, Ls8, B8, hm8, hP8, hS8⟩
  dsimp only at hS8 hP8
  refine Ev.b2 (Keep_spec (root := o) (l := []) (m := 12) hP8 u2.ok hG2 (by rw [c2]; decide) scn_nil nil_len (by decide) hS8) ?_
  clear hS8
  by_cases ho : o = 0
  · subst ho
    obtain ⟨D9, e9, u9, c9, pg9⟩ := u2.gkeep (G := ⟨2, 0, U2, [], false⟩) (r := 0) (l := []) rfl (by decide) (by decide) rfl rfl rfl
    rw [show Pgr.keep ⟨2, 0, U2, [], false⟩ D2 0 [] = _ from e9]
    rintro _ H9 ⟨rfl, Ls9, B9, hm9, hP9, hS9⟩
    dsimp only at hS9 hP9
    replace hP9 : PK p dv ⟨3, 0, [0, 1], [], false⟩ D9 Ls9 := hP9
    refine Ev.b2 (Turn_spec hP9 hS9 fun x hx => List.mem_append_left _ hx) ?_
    rintro _ _ h
    cases h
    have hsc9 : ScN B9 s15 l.length 1 (intV l) := hsc.mono (hmB.trans (hm8.mo.trans hm9.mo))
    have hG9 : Pgr.OK ⟨3, 0, [0, 1], [], false⟩ 12 := okG n01 h01 (fun x hx => by cases hx) (by decide) (by decide)
    have hdn9 : D9.n / 2 = 12 := by have := u9.n; omega
    refine Ev.b2 (Keep_spec (root := 0) (l := l) (m := 12) hP9 u9.ok hG9 (by rw [c9]; decide) hsc9 hlen15 (by omega) hS9) ?_
    clear hS9
    by_cases hl0 : l = []
    · subst hl0
      obtain ⟨D10, e10, u10, c10, pg10⟩ := u9.gkeep (G := ⟨3, 0, [0, 1], [], false⟩) (r := 0) (l := []) rfl (by decide) (by decide) rfl rfl rfl
      rw [show Pgr.keep ⟨3, 0, [0, 1], [], false⟩ D9 0 [] = _ from e10]
      rintro _ H10 ⟨rfl, Ls10, B10, hm10, hP10, hS10⟩
      dsimp only at hS10 hP10
      refine Ev.b2 (Used_spec hP10 u10.ok hS10) ?_
      rintro v11 H11 ⟨B11, hm11, hsc11, hS11⟩
      dsimp only at hS11 hsc11
      have hl11 := hsc11.len (Und.eq (P := Tryd.prog) (t := 33))
      refine Ev.prim hl11 ?_
      refine Ev.bind (Ev.loop (keeps_L2 u10 12 0 0 B11 H11 Ls10 _ (by decide) (by decide) rfl (by decide) hP10 hS11)) ?_
      rintro _ ⟨H12, rfl⟩
      refine Ev.eq (fun k _ => f4_A2_x4 k _ _ _ _ _ _ _ _ _ _ _ H12) ?_
      repeat (first | (first | refine Ev.s ?_ | refine Ev.newC fun _ _ _ => ?_ | refine Ev.boxC fun _ _ _ => ?_ | refine Ev.stC fun _ _ => ?_ | refine Ev.sc (by omega) ?_ | refine Ev.scg (by omega) ?_) | rw [decide_eq_true (by omega)] | rw [decide_eq_false (by omega)])
      exact keeps_J0 (o := 0) (rt := 0) (tn := 3) (f1 := 3) (h := 0) hlen15 hll (.inl ⟨rfl, rfl, rfl, rfl, .inl ⟨rfl, rfl⟩⟩)
    · have e10 : Pgr.keep ⟨3, 0, [0, 1], [], false⟩ D9 0 l = (1, ⟨3, 0, [0, 1], [], false⟩, D9) := by
        unfold Pgr.keep
        dsimp only
        rw [if_neg (by decide), if_neg (by simp), if_pos]
        unfold keepOK
        rw [List.all_eq_false]
        obtain ⟨x, hx⟩ := List.exists_mem_of_ne_nil _ hl0
        have h2 := hlm x hx
        refine ⟨x, hx, ?_⟩
        have : x ∉ ([0, 1] : List Int) := by simp; omega
        simp [this]
      rw [e10]
      rintro _ H10 ⟨rfl, Ls10, B10, hm10, hP10, hS10⟩
      dsimp only at hS10 hP10
      refine Ev.b2 (Used_spec hP10 u9.ok hS10) ?_
      rintro v11 H11 ⟨B11, hm11, hsc11, hS11⟩
      dsimp only at hS11 hsc11
      have hl11 := hsc11.len (Und.eq (P := Tryd.prog) (t := 33))
      refine Ev.prim hl11 ?_
      refine Ev.bind (Ev.loop (keeps_L2 u9 12 0 0 B11 H11 Ls10 _ (by decide) (by decide) rfl (by decide) hP10 hS11)) ?_
      rintro _ ⟨H12, rfl⟩
      refine Ev.eq (fun k _ => f4_A2_x4 k _ _ _ _ _ _ _ _ _ _ _ H12) ?_
      repeat (first | (first | refine Ev.s ?_ | refine Ev.newC fun _ _ _ => ?_ | refine Ev.boxC fun _ _ _ => ?_ | refine Ev.stC fun _ _ => ?_ | refine Ev.sc (by omega) ?_ | refine Ev.scg (by omega) ?_) | rw [decide_eq_true (by omega)] | rw [decide_eq_false (by omega)])
      exact keeps_J0 (o := 0) (rt := 0) (tn := 3) (f1 := 3) (h := 1) hlen15 hll (.inl ⟨rfl, rfl, rfl, rfl, .inr ⟨fun h => hl0 (List.length_eq_zero_iff.1 h), rfl⟩⟩)
  · have e9 : Pgr.keep ⟨2, 0, U2, [], false⟩ D2 o [] = (1, ⟨2, 0, U2, [], false⟩, D2) := by
      unfold Pgr.keep
      dsimp only
      rw [if_neg (by decide), if_neg (by simp), if_neg (show ¬ (keepOK U2 [] = false) from fun h => by cases h), if_pos]
      unfold mayR
      show (decide (o = 0) || decide (2 ≤ o) && decide (o ∈ ([0, 1] : List Int))) = false
      rw [decide_eq_false ho]
      by_cases h2 : 2 ≤ o
      · have : o ∉ ([0, 1] : List Int) := by simp; omega
        simp [this]
      · simp [h2]
    rw [e9]
    rintro _ H9 ⟨rfl, Ls9, B9, hm9, hP9, hS9⟩
    dsimp only at hS9 hP9
    refine Ev.b2 (Turn_spec hP9 hS9 fun x hx => List.mem_append_left _ hx) ?_
    rintro _ _ h
    cases h
    have hsc9 : ScN B9 s15 l.length 1 (intV l) := hsc.mono (hmB.trans (hm8.mo.trans hm9.mo))
    refine Ev.b2 (Keep_spec (root := 0) (l := l) (m := 12) hP9 u2.ok hG2 (by rw [c2]; decide) hsc9 hlen15 (by omega) hS9) ?_
    clear hS9
    obtain ⟨D10, e10, u10, c10, pg10⟩ := u2.gkeep (G := ⟨2, 0, U2, [], false⟩) (r := 0) (l := l) rfl (by decide) (by decide) rfl (by
      unfold keepOK
      rw [List.all_eq_true]
      intro x hx
      have h2 := hlm x hx
      simp [hU2m x (by omega) (by omega), h2.1]) rfl
    rw [show Pgr.keep ⟨2, 0, U2, [], false⟩ D2 0 l = _ from e10]
    rintro _ H10 ⟨rfl, Ls10, B10, hm10, hP10, hS10⟩
    dsimp only at hS10 hP10
    replace hP10 : PK p dv ⟨3, 0, addAll [0, 1] l, [], false⟩ D10 Ls10 := hP10
    have hdn10 : D10.n / 2 = 12 := by have := u10.n; omega
    have hVn : (addAll [0, 1] l).Nodup := addAll_nodup _ _ n01
    have hV : ∀ x ∈ addAll [0, 1] l, 0 ≤ x ∧ x < ((12 : Nat) : Int) := fun x hx => by
      rcases (addAll_mem _ _ _).1 hx with h | h
      · exact h01 x h
      · have := hlm x h; omega
    have hVl : (addAll [0, 1] l).length = l.length + 2 := by
      have : (addAll [0, 1] l).length = ([0, 1] ++ l).length := by
        refine ilen_eq hVn ?_ fun x => by rw [addAll_mem, List.mem_append]
        rw [List.nodup_append]
        refine ⟨n01, hln, fun a ha b hb => ?_⟩
        have := hlm b hb
        simp at ha
        rintro rfl
        omega
      rw [this, List.length_append]
      simp; omega
    refine Ev.b2 (Used_spec hP10 u10.ok hS10) ?_
    rintro v11 H11 ⟨B11, hm11, hsc11, hS11⟩
    dsimp only at hS11 hsc11
    have hl11 := hsc11.len (Und.eq (P := Tryd.prog) (t := 33))
    rw [hdn10, list_len (G := ⟨3, 0, addAll [0, 1] l, [], false⟩) hVn hV, hVl] at hl11
    refine Ev.prim hl11 ?_
    have hleft : Pgr.left ⟨3, 0, addAll [0, 1] l, [], false⟩ 12 = 12 - (addAll [0, 1] l).length := left_of (G := ⟨3, 0, addAll [0, 1] l, [], false⟩) rfl hVn hV
    refine Ev.bind (Ev.loop (keeps_L2 u10 12 0 0 B11 H11 Ls10 ⟨3, 0, addAll [0, 1] l, [], false⟩ (by decide) (by decide) rfl (Nat.le_refl 0) hP10 hS11)) ?_
    rintro _ ⟨H12, rfl⟩
    rw [hleft, hVl]
    refine Ev.eq (fun k _ => f4_A2_x4 k _ _ _ _ _ _ _ _ _ _ _ H12) ?_
    refine Ev.prim bin_eql ?_
    rw [decide_eq_false ho]
    repeat (first | refine Ev.s ?_ | refine Ev.newC fun _ _ _ => ?_ | refine Ev.boxC fun _ _ _ => ?_ | refine Ev.stC fun _ _ => ?_ | refine Ev.sc (by omega) ?_ | refine Ev.scg (by omega) ?_)
    rw [show 0 + min 12 (12 - (l.length + 2)) = 10 - l.length by omega]
    exact keeps_J0 (o := o) (rt := 1) (tn := 2) (f1 := 2) (h := 0) hlen15 hll (.inr ⟨ho, rfl, rfl, rfl, rfl, rfl, rfl⟩)
theorem keeps_law {bits o : Int} (hL : Le B H) : Ev (fun k _ => rn k 4 [.int .i64 bits, .int .i64 o] H) (fun r => r.1 = .bool true) := by
  refine Ev.fn (fun k => f4_eq k _ _ H) ?_
  have hS := St.start hL
  refine Ev.b2 (examples_spec hS) ?_
  rintro _ H1 ⟨rfl, B1, hm1, hS1⟩
  dsimp only at hS1
  clear hS
  repeat (first | refine Ev.s ?_ | refine Ev.newC fun _ _ _ => ?_ | refine Ev.boxC fun _ _ _ => ?_ | refine Ev.stC fun _ _ => ?_ | refine Ev.sc (by omega) ?_ | refine Ev.scg (by omega) ?_)
  refine Ev.b2 (New_spec (n := 24) (by decide) (by decide) hS1) ?_
  rintro _ H2 ⟨p1, Ls1, B2, rfl, hm2, hD2, hS2⟩
  obtain ⟨d1, rfl⟩ := hD2.ptr
  dsimp only at hS2
  clear hS1
  repeat (first | refine Ev.s ?_ | refine Ev.newC fun _ _ _ => ?_ | refine Ev.boxC fun _ _ _ => ?_ | refine Ev.stC fun _ _ => ?_ | refine Ev.sc (by omega) ?_ | refine Ev.scg (by omega) ?_)
  refine Ev.b2 (Format_up (m := 12) hD2 (Dsk.up_new (by decide) (by decide)) (by decide) (by decide) (by decide) hS2) ?_
  clear hS2
  rintro _ H3 ⟨b, D3, ⟨rfl, Ls3, B3, hm3, hP3, hS3⟩, u3, c3, pg3⟩
  dsimp only at hS3
  repeat (first | refine Ev.s ?_ | refine Ev.newC fun _ _ _ => ?_ | refine Ev.boxC fun _ _ _ => ?_ | refine Ev.stC fun _ _ => ?_ | refine Ev.sc (by omega) ?_ | refine Ev.scg (by omega) ?_)
  refine Ev.bind (Ev.loop (keeps_L0 10 0 B3 H3 Ls3 D3 (by decide) u3 (by rw [c3]; rfl) hP3 hS3)) ?_
  clear hS3
  rintro _ ⟨B4, Ls4, H4, D4, rfl, hm4, u4, c4, hP4, hS4⟩
  exact keeps_tail u4 c4 hP4 hS4
theorem corePagerKeeps (H : AH) (vs : List Value) (x : Int × Int × Unit) (hK : ∃ v0 vs0, vs = v0 :: vs0 ∧ KvC (Kn.int .i64) H x.1 v0 ∧ ∃ v1 vs1, vs0 = v1 :: vs1 ∧ KvC (Kn.int .i64) H x.2.1 v1 ∧ vs1 = [])
    (hG : (Lit.int .i64 x.1).wf = true ∧ (Lit.int .i64 x.2.1).wf = true ∧ True) : Ev (fun k _ => rn k 4 vs H) (fun r => r.1 = .bool true) := by
  obtain ⟨v0, _, rfl, h0, v1, _, rfl, h1, rfl⟩ := hK
  have h0 : [v0] = [.int .i64 x.1] := h0
  cases h0
  have h1 : [v1] = [.int .i64 x.2.1] := h1
  cases h1
  exact keeps_law ⟨Mo.refl H⟩
end
end Go.AM.G
