/-
  Facts of the abstract evaluator and of the functions that the law reaches, part 3. Conditions: none.
-/
import Derived.ProofKit
import Derived.Deep.Slices
import Derived.DataElems
import Derived.DataReads
import Derived.ChangeArms
import Derived.ChangeSame
import Derived.Test.YtffdllmhlaecgaaG2DyadRounds
set_option linter.unusedVariables false
set_option linter.unusedSimpArgs false
set_option linter.unnecessarySimpa false
set_option exponentiation.threshold 200000
set_option maxRecDepth 100000
set_option linter.unusedVariables false
set_option linter.unusedSimpArgs false
namespace Go.AM
open Go.RowKit

theorem rep_length (z : List Value) : ∀ n, (rep z n).length = n * z.length
  | 0 => by simp [rep]
  | n + 1 => by rw [rep, List.length_append, rep_length z n, Nat.add_mul, Nat.one_mul, Nat.add_comm]
theorem rep_get (z : List Value) : ∀ (n j : Nat), j < n * z.length → (rep z n)[j]? = z[j % z.length]?
  | 0, j, h => by omega
  | n + 1, j, h => by
    rw [rep, List.getElem?_append]
    split
    · rename_i hj; rw [Nat.mod_eq_of_lt hj]
    · rename_i hj
      rw [rep_get z n (j - z.length) (by rw [Nat.add_mul] at h; omega)]
      congr 1
      rw [Nat.mod_eq_sub_mod (a := j) (by omega)]
theorem madeCells_toList (z : Array Value) (n : Nat) : (madeCells z (n * z.size)).toList = rep z.toList n := by
  apply List.ext_getElem?
  intro j
  have hs : (madeCells z (n * z.size)).toList.length = n * z.size := by simp [madeCells]
  by_cases hj : j < n * z.size
  · rw [rep_get z.toList n j (by simpa using hj)]
    have hz : 0 < z.size := by
      rcases Nat.eq_zero_or_pos z.size with h | h
      · rw [h] at hj; omega
      · exact h
    have hm : j % z.size < z.size := Nat.mod_lt _ hz
    simp only [madeCells, Array.toList_map, Array.toList_range, List.getElem?_map, List.getElem?_range hj, Option.map_some, Array.length_toList]
    rw [Array.getElem?_toList]
    simp [hm]
  · rw [List.getElem?_eq_none (by omega), List.getElem?_eq_none (by rw [rep_length]; simp; omega)]

section
variable {P : Program} {B0 : Nat} {w0 : World} {m : Mp} {H : AH} {w : World}

theorem flat_cells {z : Value} (h : flat z = true) : LRel m z.cells.toList z.cells.toList := by
  have := VRel.of_flat (m := m) h
  unfold flat at h
  split at h
  · exact LRel.of_flat _ h
  · rename_i hz
    have : z.cells = #[z] := by cases z <;> first | rfl | exact (hz _ rfl).elim
    rw [this]
    exact LRel.cons (.flat _ h) (LRel.nil m)
theorem LRel.rep {xs ys : List Value} (h : LRel m xs ys) : ∀ n, LRel m (rep xs n) (rep ys n)
  | 0 => LRel.nil m
  | n + 1 => h.append (LRel.rep h n)
theorem VRel.int_inv {k : IntKind} {n : Int} {v : Value} (h : VRel m (.int k n) v) : v = .int k n := h.flat_inv rfl
theorem VRel.bool_inv {b : Bool} {v : Value} (h : VRel m (.bool b) v) : v = .bool b := h.flat_inv rfl
theorem VRel.str_inv {s : ByteArray} {v : Value} (h : VRel m (.string s) v) : v = .string s := h.flat_inv rfl
theorem VRel.newSl {L : Loc} {b n c c' : Nat} (hm : m b = some L) (h0 : L.base = 0) (h1 : n ≤ c) (h2 : n ≤ c') (h3 : L.kind = .fix → c' = c) (h4 : L.kind = .grow → c' * L.esz ≤ L.csize) (h5 : L.kind ≠ .fix → n < c) : VRel m (sl b 0 n c) (.slice (some ⟨L.blk, 0, none⟩) n c') :=
  .slice b 0 0 n c c' L hm h1 h2 (.inl (by omega)) (fun hk => ⟨by omega, h3 hk⟩) (fun hk _ _ => by have := h4 hk; omega) (fun hk => .inl (h5 hk))
theorem mkS_sound (R : Rel P B0 w0 m H w) {t : TypeId} {l l' c c' u : Value} {H' : AH} (hl : VRel m l l') (hc : VRel m c c') (h : mkS P t H l c = some (u, H')) :
    ∃ u' m' w', (Instr.makeSlice t l' c').run P w = .ok u' w' ∧ VRel m' u u' ∧ Rel P B0 w0 m' H' w' ∧ Ext m H w m' H' w' := by
  unfold mkS at h
  split at h
  · rename_i e k1 n k2 q hd
    cases hz : zeroT P e with
    | none => rw [hz] at h; cases h
    | some z =>
      rw [hz] at h
      simp only [Option.bind_some] at h
      split at h
      · rename_i hcond
        obtain ⟨c1, c2, c3, c4, c5, c6⟩ := hcond
        cases h
        obtain ⟨i, hi, hz1, hz2⟩ := zeroT_inv hz
        cases hl.int_inv
        cases hc.int_inv
        rw [byT_eq hi] at c3
        rw [szT_eq hi] at c5
        have hrun := run_make (P := P) w t e i z hd hi hz1 k1 k2 n q c1 c2 (by rw [Int.mul_comm]; exact c3) c4
        rw [← c5] at hrun
        have hml := madeCells_toList z.cells q.toNat
        obtain ⟨h1, h2⟩ := R.make (P := P) (rep z.cells.toList q.toNat) e .fix (madeCells z.cells (q.toNat * z.cells.size)) (by decide)
          (by rw [hml, List.take_of_length_le (Nat.le_refl _)]; exact (flat_cells hz2).rep _) (fun _ => by rw [size_madeCells, rep_length]; simp)
        exact ⟨_, _, _, hrun, VRel.newSl (upd_same _ _ _) rfl (by omega) (by omega) (fun _ => rfl) (fun hk => by cases hk) (fun hk => (hk rfl).elim), h1, h2⟩
      · cases h
  · cases h
theorem fldA_sound (R : Rel P B0 w0 m H w) {s : TypeId} {a a' v : Value} {i : Nat} (ha : VRel m a a') (h : fldA P s a i = some v) : ∃ v', (Instr.fieldAt s a' i).run P w = .ok v' w ∧ VRel m v v' := by
  unfold fldA at h
  split at h
  · rename_i fs b off hd
    cases hf : fs[i]? with
    | none => rw [hf] at h; cases h
    | some f =>
      rw [hf] at h
      simp only [Option.bind_some] at h
      split at h
      · cases h
      · rename_i hz
        cases h
        obtain ⟨L, hm, rfl⟩ := ha.ptr_inv
        have hinfo : ∃ j, P.info? f.type = some j := by
          cases hj : P.info? f.type with
          | some j => exact ⟨j, rfl⟩
          | none => exfalso; apply hz; simp [szT, Program.cellsOf, hj]
        obtain ⟨j, hj⟩ := hinfo
        refine ⟨.pointer (some ⟨L.blk, L.base + (off + f.offset), none⟩), ?_, .ptr b (off + f.offset) L hm⟩
        simp [Instr.fieldAt, run_underlying hd, hf, Instr.sureAddr, fieldPlace, run_sizeOf hj, hz, Addr.add_lit, Nat.add_assoc]
  · cases h
theorem prt_sound {t : TypeId} {cs ds : List Value} {off : Nat} {v : Value} (hl : LRel m cs ds) (h : prt P t cs off = some v) : ∃ v', (part t ds.toArray off).run P w = .ok v' w ∧ VRel m v v' := by
  unfold prt at h
  split at h
  · rename_i hg
    obtain ⟨h1, i, hi⟩ := aggT_true hg w
    cases h
    refine ⟨.agg ((ds.drop off).take (szT P t)).toArray, ?_, VRel.aggL (by simpa using (hl.drop off).take _)⟩
    simp [part, h1, run_sizeOf hi]
  · rename_i hg
    obtain ⟨h1, i, hi⟩ := aggT_false hg w
    have hlt := (List.getElem?_eq_some_iff.1 h).1
    have hd : ds[off]? = some (ds[off]'(by rw [← hl.1]; exact hlt)) := List.getElem?_eq_getElem _
    exact ⟨_, by simp [part, h1, hd], hl.2 off _ _ h hd⟩
  · cases h
theorem fld_sound {s : TypeId} {x x' v : Value} {i : Nat} (hx : VRel m x x') (h : fld P s x i = some v) : ∃ v', (Instr.field s x' i).run P w = .ok v' w ∧ VRel m v v' := by
  unfold fld at h
  split at h
  · rename_i fs cs hd
    cases hf : fs[i]? with
    | none => rw [hf] at h; cases h
    | some f =>
      rw [hf] at h
      obtain ⟨ys, rfl, hl⟩ := hx.agg_inv
      obtain ⟨v', h1, h2⟩ := prt_sound (P := P) (w := w) hl h
      exact ⟨v', by simpa [Instr.field, run_underlying hd, hf, asAgg] using h1, h2⟩
  · cases h
theorem isSome_info {t : TypeId} (h : (P.info? t).isSome = true) : ∃ i, P.info? t = some i := Option.isSome_iff_exists.1 h
theorem ixA_sound {t : TypeId} {x x' i i' v : Value} (hx : VRel m x x') (hi : VRel m i i') (h : ixA P t x i = some v) : ∃ v', (Instr.indexAt t x' i').run P w = .ok v' w ∧ VRel m v v' := by
  unfold ixA at h
  split at h
  · rename_i e b off len cap k n hd
    split at h
    · rename_i hc
      cases h
      cases hi.int_inv
      obtain ⟨L, off', cap', hm, rfl, h1, h2, h3, h4, h5, h6⟩ := hx.slice_inv
      obtain ⟨ie, hie⟩ := isSome_info hc.1
      rcases h3 with h3 | h3
      · subst h3
        refine ⟨.pointer (some ⟨L.blk, L.base + (off + n.toNat * szT P e), none⟩), ?_, .ptr b _ L hm⟩
        simp [Instr.indexAt, asIntOf, run_underlying hd, hc.2, run_sizeOf hie, Addr.add_lit, Nat.add_assoc]
      · omega
    · cases h
  · rename_i len e b off k n hd
    split at h
    · rename_i hc
      cases h
      cases hi.int_inv
      obtain ⟨L, hm, rfl⟩ := hx.ptr_inv
      obtain ⟨ie, hie⟩ := isSome_info hc.1
      refine ⟨.pointer (some ⟨L.blk, L.base + (off + n.toNat * szT P e), none⟩), ?_, .ptr b _ L hm⟩
      simp [Instr.indexAt, asIntOf, run_underlying hd, hc.2, Instr.sureAddr, run_sizeOf hie, Addr.add_lit, Nat.add_assoc]
    · cases h
  · cases h
theorem ix_sound {t : TypeId} {x x' i i' v : Value} (hx : VRel m x x') (hi : VRel m i i') (h : ix P t x i = some v) : ∃ v', (Instr.index t x' i').run P w = .ok v' w ∧ VRel m v v' := by
  unfold ix at h
  split at h
  · rename_i s k n hd
    split at h
    · rename_i hc
      cases h
      cases hi.int_inv
      cases hx.str_inv
      have hlt : n.toNat < s.size := by omega
      have e1 : s[n.toNat]? = some s[n.toNat] := by rw [getElem?_pos s n.toNat hlt]
      have e2 : s.data[n.toNat]?.getD 0 = s[n.toNat] := by
        rw [Array.getElem?_eq_getElem (by exact hlt)]; rfl
      exact ⟨_, by simp [Instr.index, asIntOf, run_underlying hd, hc.1, e1]; rfl, by rw [e2]; exact .flat _ rfl⟩
    · cases h
  · rename_i len e cs k n hd
    split at h
    · rename_i hc
      cases hi.int_inv
      obtain ⟨ys, rfl, hl⟩ := hx.agg_inv
      obtain ⟨ie, hie⟩ := isSome_info hc.1
      obtain ⟨v', h1, h2⟩ := prt_sound (P := P) (w := w) hl h
      exact ⟨v', by simpa [Instr.index, asIntOf, run_underlying hd, hc.2, run_sizeOf hie] using h1, h2⟩
    · cases h
  · cases h
/-- An optional bound. -/
def ORel (m : Mp) (x x' : Option Value) : Prop := (x = none ∧ x' = none) ∨ ∃ v v', x = some v ∧ x' = some v' ∧ VRel m v v'
theorem intOr_inv {x x' : Option Value} {d : Nat} {n : Int} (hx : ORel m x x') (h : intOr x d = some n) : (x' = none ∧ n = d) ∨ ∃ k, x' = some (.int k n) := by
  rcases hx with ⟨rfl, rfl⟩ | ⟨v, v', rfl, rfl, hv⟩
  · simp [intOr] at h; exact .inl ⟨rfl, h.symm⟩
  · unfold intOr at h
    split at h
    · rename_i he; cases he
    · rename_i k n' he; cases he; cases h; cases hv.int_inv; exact .inr ⟨k, rfl⟩
    · cases h
theorem sliceBounds_run {lo hi : Option Value} {l h : Int} {len cap d : Nat} (s : Bool) (hl : (lo = none ∧ l = 0) ∨ ∃ k, lo = some (.int k l)) (hh : (hi = none ∧ h = len) ∨ ∃ k, hi = some (.int k h)) (h0 : 0 ≤ l) (h1 : l ≤ h) (h2 : h ≤ cap) :
    (Instr.sliceBounds s len cap lo hi none).run P w = .ok (l.toNat, h.toNat, cap) w := by
  have e1 : (0 : Int) ≤ h := by omega
  rcases hl with ⟨rfl, rfl⟩ | ⟨k, rfl⟩ <;> rcases hh with ⟨rfl, rfl⟩ | ⟨k2, rfl⟩
  · simp [Instr.sliceBounds]
  · simp [Instr.sliceBounds, Instr.sliceBound, asIntOf, e1, h2]
  · simp [Instr.sliceBounds, Instr.sliceBound, asIntOf, h0]
    omega
  · have : l ≤ (h.toNat : Int) := by omega
    simp only [Instr.sliceBounds, Instr.sliceBound, asIntOf, Sem.run_bind, Sem.run_pure, Result.andThen_ok, Sem.run_ite, h0, e1, h2, this, and_self, if_true, Option.isSome_none, Bool.false_eq_true, if_false]
theorem slc_sound {t : TypeId} {x x' v : Value} {lo lo' hi hi' : Option Value} (hx : VRel m x x') (hlo : ORel m lo lo') (hhi : ORel m hi hi') (h : slc P t x lo hi = some v) :
    ∃ v', (Instr.sliceAt t x' lo' hi' none).run P w = .ok v' w ∧ VRel m v v' := by
  unfold slc at h
  split at h
  · rename_i s hd
    cases hl : intOr lo 0 with
    | none => rw [hl] at h; cases h
    | some l =>
      rw [hl] at h
      simp only [Option.bind_some] at h
      cases hh : intOr hi s.size with
      | none => rw [hh] at h; cases h
      | some q =>
        rw [hh] at h
        simp only [Option.bind_some] at h
        split at h
        · rename_i hc
          cases h
          cases hx.str_inv
          have := sliceBounds_run (P := P) (w := w) (d := 0) (len := s.size) (cap := s.size) false (by simpa using intOr_inv hlo hl) (intOr_inv hhi hh) hc.1 hc.2.1 hc.2.2
          exact ⟨_, by simp [Instr.sliceAt, Instr.slice, run_underlying hd, this], .flat _ rfl⟩
        · cases h
  · rename_i e b off len cap hd
    cases hl : intOr lo 0 with
    | none => rw [hl] at h; cases h
    | some l =>
      rw [hl] at h
      simp only [Option.bind_some] at h
      cases hh : intOr hi len with
      | none => rw [hh] at h; cases h
      | some q =>
        rw [hh] at h
        simp only [Option.bind_some] at h
        split at h
        · rename_i hc
          cases h
          obtain ⟨L, off', cap', hm, rfl, h1, h2, h3, h4, h5, h6⟩ := hx.slice_inv
          obtain ⟨ie, hie⟩ := isSome_info hc.1
          have := sliceBounds_run (P := P) (w := w) (d := 0) (len := len) (cap := cap') true (by simpa using intOr_inv hlo hl) (intOr_inv hhi hh) hc.2.1 hc.2.2.1 (by omega)
          refine ⟨.slice (some ⟨L.blk, if cap' = l.toNat then off' else off' + l.toNat * szT P e, none⟩) (q.toNat - l.toNat) (cap' - l.toNat), ?_, ?_⟩
          · simp only [Instr.sliceAt, Instr.slice, Sem.run_bind, run_underlying hd, Result.andThen_ok, this, run_sizeOf hie, Sem.run_pure]
            by_cases he : cap' = l.toNat
            · simp [he]
            · simp [he, Addr.add_lit]
          · refine .slice _ _ _ _ _ _ L hm (by omega) (by omega) ?_ ?_ ?_ (fun hk => by rcases h6 hk with h7 | h7 <;> omega)
            · rcases h3 with h3 | h3
              · by_cases he : cap' = l.toNat
                · exact .inr (by omega)
                · by_cases he2 : cap = l.toNat
                  · exact .inr (by omega)
                  · rw [if_neg he, if_neg he2]; exact .inl (by omega)
              · exact .inr (by omega)
            · intro hk
              obtain ⟨h8, h7⟩ := h4 hk
              subst h7
              refine ⟨?_, rfl⟩
              split <;> omega
            · intro hk ho hcp
              have hle : (cap' - l.toNat) * L.esz ≤ cap' * L.esz := Nat.mul_le_mul_right _ (Nat.sub_le _ _)
              rw [if_neg (by omega)] at ho
              have h8 := h5 hk (by omega) (by omega)
              have hz : l.toNat * szT P e = 0 := by omega
              rw [hz]
              split <;> omega
        · cases h
  · rename_i e hd
    cases hl : intOr lo 0 with
    | none => rw [hl] at h; cases h
    | some l =>
      rw [hl] at h
      simp only [Option.bind_some] at h
      cases hh : intOr hi 0 with
      | none => rw [hh] at h; cases h
      | some q =>
        rw [hh] at h
        simp only [Option.bind_some] at h
        split at h
        · rename_i hc
          cases h
          obtain ⟨hc1, rfl, rfl⟩ := hc
          obtain ⟨ie, hie⟩ := isSome_info hc1
          cases hx.flat_inv rfl
          have := sliceBounds_run (P := P) (w := w) (d := 0) (len := 0) (cap := 0) true (l := 0) (h := 0) (intOr_inv hlo hl) (intOr_inv hhi hh) (by omega) (by omega) (by omega)
          exact ⟨.slice none 0 0, by simp [Instr.sliceAt, Instr.slice, run_underlying hd, this, run_sizeOf hie], .flat _ rfl⟩
        · cases h
  · cases h
theorem slc3_sound {t : TypeId} {x x' v mx mx' : Value} {lo lo' hi hi' : Option Value} (hx : VRel m x x') (hlo : ORel m lo lo') (hhi : ORel m hi hi') (hmx : VRel m mx mx') (h : slc3 P t x lo hi mx = some v) :
    ∃ v', (Instr.sliceAt t x' lo' hi' (some mx')).run P w = .ok v' w ∧ VRel m v v' := by
  unfold slc3 at h
  split at h
  · rename_i e b off len cap k k2 hd hl0
    split at h
    · rename_i hc
      cases h
      obtain ⟨ie, hie⟩ := isSome_info hc
      obtain ⟨L, off', cap', hm, rfl, h1, h2, h3, h4, h5, h6⟩ := hx.slice_inv
      cases hmx.int_inv
      obtain ⟨u, rfl, hu⟩ : ∃ u, hi' = some u ∧ VRel m (.int k 0) u := by
        rcases hhi with ⟨hh, _⟩ | ⟨v, v', hh, rfl, hv⟩
        · cases hh
        · cases hh; exact ⟨v', rfl, hv⟩
      cases hu.int_inv
      refine ⟨.slice (some ⟨L.blk, off', none⟩) 0 0, ?_, .slice b off off' 0 0 0 L hm (Nat.le_refl _) (Nat.le_refl _) (.inr rfl) (fun hk => ⟨(h4 hk).1, rfl⟩) (fun _ _ hh => absurd hh (by decide)) (fun _ => .inr ⟨rfl, rfl⟩)⟩
      rcases intOr_inv hlo hl0 with ⟨rfl, _⟩ | ⟨k3, rfl⟩ <;> simp [Instr.sliceAt, Instr.slice, run_underlying hd, Instr.sliceBounds, Instr.sliceBound, asIntOf, run_sizeOf hie]
    · cases h
  · rename_i e k k2 hd hl0
    split at h
    · rename_i hc
      cases h
      obtain ⟨ie, hie⟩ := isSome_info hc
      cases hx.flat_inv rfl
      cases hmx.int_inv
      obtain ⟨u, rfl, hu⟩ : ∃ u, hi' = some u ∧ VRel m (.int k 0) u := by
        rcases hhi with ⟨hh, _⟩ | ⟨v, v', hh, rfl, hv⟩
        · cases hh
        · cases hh; exact ⟨v', rfl, hv⟩
      cases hu.int_inv
      refine ⟨.slice none 0 0, ?_, .flat _ rfl⟩
      rcases intOr_inv hlo hl0 with ⟨rfl, _⟩ | ⟨k3, rfl⟩ <;> simp [Instr.sliceAt, Instr.slice, run_underlying hd, Instr.sliceBounds, Instr.sliceBound, asIntOf, run_sizeOf hie]
    · cases h
  · cases h
end
end Go.AM
set_option linter.unusedVariables false
set_option linter.unusedSimpArgs false
namespace Go.AM
open Go.RowKit

section
variable {P : Program} {B0 : Nat} {w0 : World} {m : Mp} {H : AH} {w : World}

theorem foldl_set_spl : ∀ (l : List Value) (j off : Nat) (cs : Array Value), off + j + l.length ≤ cs.size →
    ((l.zipIdx j).foldl (fun (cs : Array Value) (p : Value × Nat) => cs.setIfInBounds (off + p.2) p.1) cs).toList = spl cs.toList (off + j) l
  | [], j, off, cs, _ => by simp [spl]
  | v :: l, j, off, cs, h => by
    simp only [List.length_cons] at h
    rw [List.zipIdx_cons, List.foldl_cons, foldl_set_spl l (j + 1) off _ (by simp; omega)]
    have hcl : cs.toList.length = cs.size := by simp
    unfold spl
    rw [Array.toList_setIfInBounds]
    apply List.ext_getElem?
    intro i
    simp only [List.getElem?_append, List.getElem?_take, List.getElem?_drop, List.getElem?_set, List.length_take, List.length_set, List.length_cons]
    rw [hcl]
    by_cases h1 : i < off + j
    · rw [if_pos (by omega), if_pos (by omega), if_neg (by omega), if_pos (by omega), if_pos (by omega)]
    · by_cases h2 : i = off + j
      · subst h2
        have e1 : min (off + (j + 1)) cs.size = off + (j + 1) := by omega
        have e2 : min (off + j) cs.size = off + j := by omega
        rw [e1, e2]
        simp [show off + j < off + (j + 1) by omega, show off + j < cs.size by omega]
      · by_cases h3 : i < off + j + 1 + l.length
        · rw [if_neg (by omega), if_pos (by omega), if_neg (by omega), if_pos (by omega)]
          rw [show i - min (off + j) cs.size = (i - min (off + (j + 1)) cs.size) + 1 by omega, List.getElem?_cons_succ]
        · rw [if_neg (by omega), if_neg (by omega), if_neg (by omega), if_neg (by omega)]
          rw [if_neg (by omega)]
          congr 1
          omega
def PRel (m : Mp) : List (Nat × Value) → List (Nat × Value) → Prop
  | [], [] => True
  | p :: ps, q :: qs => p.1 = q.1 ∧ VRel m p.2 q.2 ∧ PRel m ps qs
  | _, _ => False
theorem fill_sound (place : Nat → Option (Nat × Nat)) : ∀ (ps qs : List (Nat × Value)) (cs : List Value) (ds : Array Value) (es : List Value), PRel m ps qs → LRel m cs ds.toList → fillB place cs ps = some es →
    ∃ fs, Instr.fill place ds qs = some fs ∧ LRel m es fs.toList
  | [], [], cs, ds, es, _, hl, h => by
    cases h
    exact ⟨ds, rfl, hl⟩
  | (i, v) :: ps, (j, u) :: qs, cs, ds, es, hp, hl, h => by
    obtain ⟨rfl, hv, hr⟩ := hp
    unfold fillB at h
    unfold Instr.fill
    cases hpl : place i with
    | none => rw [hpl] at h; cases h
    | some on =>
      obtain ⟨off, n⟩ := on
      rw [hpl] at h
      simp only at h ⊢
      split at h
      · rename_i hc
        obtain ⟨c1, c2, c3⟩ := hc
        obtain ⟨q1, q2⟩ := hv.cells c3
        have hsz : u.cells.size = n := by have := q1.1; simp at this; omega
        have hds : ds.size = cs.length := by have := hl.1; simp at this; omega
        rw [if_neg (by simp [hsz]; omega)]
        refine fill_sound place ps qs _ _ es hr ?_ h
        rw [← Array.foldl_toList, Array.toList_zipIdx]
        have := foldl_set_spl u.cells.toList 0 off ds (by simp [hsz]; omega)
        rw [this]
        exact hl.spl q1 _
      · cases h
  | [], _ :: _, _, _, _, hp, _, _ => hp.elim
  | _ :: _, [], _, _, _, hp, _, _ => hp.elim
theorem build_sound {t : TypeId} {ps qs : List (Nat × Value)} {v : Value} (hp : PRel m ps qs) (h : build P t ps = some v) : ∃ v', (Instr.build t qs.toArray).run P w = .ok v' w ∧ VRel m v v' := by
  unfold build at h
  cases hz : zeroT P t with
  | none => rw [hz] at h; cases h
  | some z =>
    rw [hz] at h
    simp only [Option.bind_some] at h
    obtain ⟨i, hi, hz1, hz2⟩ := zeroT_inv hz
    split at h
    · rename_i fs hd
      split at h
      · cases h
      · rename_i hall
        simp only [Bool.not_eq_false] at hall
        cases hf : fillB (fun i => (fs[i]?).map fun f => (f.offset, szT P f.type)) z.cells.toList ps with
        | none => rw [hf] at h; cases h
        | some cs =>
          rw [hf] at h
          cases h
          obtain ⟨es, h1, h2⟩ := fill_sound (m := m) _ ps qs _ z.cells _ hp (flat_cells hz2) hf
          refine ⟨.agg es, run_build w t qs.toArray es ?_, VRel.aggL (by simpa using h2)⟩
          unfold Program.built
          rw [hi, hd]
          simp only
          have hm : fs.toList.mapM (fun f => (P.info? f.type).map fun i => (f.offset, i.size)) = some (fs.toList.map fun f => (f.offset, szT P f.type)) := by
            have : ∀ l : List Field, l.all (fun f => (P.info? f.type).isSome) = true → l.mapM (fun f => (P.info? f.type).map fun i => (f.offset, i.size)) = some (l.map fun f => (f.offset, szT P f.type)) := by
              intro l
              induction l with
              | nil => intro _; rfl
              | cons f l ih =>
                intro h
                simp only [List.all_cons, Bool.and_eq_true] at h
                obtain ⟨j, hj⟩ := isSome_info h.1
                simp [List.mapM_cons, hj, ih h.2, szT_eq hj]
            exact this _ hall
          rw [hz1, hm]
          simp only
          rw [← h1]
          congr 1
          funext x
          simp
    · rename_i n e hd
      split at h
      · cases h
      · rename_i hall
        simp only [Bool.not_eq_false] at hall
        obtain ⟨j, hj⟩ := isSome_info hall
        cases hf : fillB (fun i => some (i * szT P e, szT P e)) z.cells.toList ps with
        | none => rw [hf] at h; cases h
        | some cs =>
          rw [hf] at h
          cases h
          obtain ⟨es, h1, h2⟩ := fill_sound (m := m) _ ps qs _ z.cells _ hp (flat_cells hz2) hf
          refine ⟨.agg es, run_build w t qs.toArray es ?_, VRel.aggL (by simpa using h2)⟩
          unfold Program.built
          rw [hi, hd]
          simp only [hz1, hj]
          rw [szT_eq hj] at h1
          exact h1
    · cases h
theorem buildS_sound (R : Rel P B0 w0 m H w) {t : TypeId} {len : Nat} {ps qs : List (Nat × Value)} {u : Value} {H' : AH} (hp : PRel m ps qs) (h : buildS P t H len ps = some (u, H')) :
    ∃ u' m' w', (Instr.buildSlice t len qs.toArray).run P w = .ok u' w' ∧ VRel m' u u' ∧ Rel P B0 w0 m' H' w' ∧ Ext m H w m' H' w' := by
  unfold buildS at h
  split at h
  · rename_i e hd
    cases hz : zeroT P e with
    | none => rw [hz] at h; cases h
    | some z =>
      rw [hz] at h
      simp only [Option.bind_some] at h
      obtain ⟨i, hi, hz1, hz2⟩ := zeroT_inv hz
      split at h
      · rename_i hc
        cases hf : fillB (fun i => some (i * szT P e, szT P e)) (rep z.cells.toList len) ps with
        | none => rw [hf] at h; cases h
        | some cs =>
          rw [hf] at h
          cases h
          have hml := madeCells_toList z.cells len
          rw [hc.2] at hml
          obtain ⟨es, h1, h2⟩ := fill_sound (m := m) _ ps qs _ (madeCells z.cells (len * szT P e)) _ hp (by rw [hml]; exact (flat_cells hz2).rep _) hf
          obtain ⟨h3, h4⟩ := R.make (P := P) cs e .fix es (by decide) (by rw [List.take_of_length_le (by have := h2.1; simp at this ⊢; omega)]; exact h2) (fun _ => by have := h2.1; simp at this; omega)
          refine ⟨_, _, _, ?_, VRel.newSl (upd_same _ _ _) rfl (Nat.le_refl _) (Nat.le_refl _) (fun _ => rfl) (fun hk => by cases hk) (fun hk => (hk rfl).elim), h3, h4⟩
          have hle : ¬ (16777216 < len * szT P e) := by omega
          by_cases h0 : len * szT P e = 0
          · have e0 : madeCells z.cells 0 = #[] := by simp [madeCells]
            rw [h0, e0] at h1
            simp [Instr.buildSlice, run_underlying hd, run_sizeOf hi, h0, newRow, Array.range_zero']
            rw [h1]
            simp
          · simp [Instr.buildSlice, run_underlying hd, run_sizeOf hi, h0, hle, run_zeroValue hi hz1, newRow]
            unfold madeCells at h1
            rw [h1]
            simp
      · cases h
  · cases h
theorem still_run {α : Type} : ∀ (s : Sem α) (a : α), still P s = some a → ∀ w, s.run P w = .ok a w := by
  intro s
  induction s with
  | pure a => intro b h w; cases h; rfl
  | program k ih => intro b h w; exact ih P b h w
  | _ => intro b h; cases h
theorem VRel.ptr_some {ad : Addr} {v : Value} (h : VRel m (.pointer (some ad)) v) : ∃ ad', v = .pointer (some ad') := by
  cases h with
  | flat v h => simp [flat1] at h
  | ptr b off L h => exact ⟨_, rfl⟩
theorem VRel.slice_some {ad : Addr} {n c : Nat} {v : Value} (h : VRel m (.slice (some ad) n c) v) : ∃ ad' c', v = .slice (some ad') n c' := by
  cases h with
  | flat v h => simp [flat1] at h
  | slice b off off' len cap cap' L h h1 h2 h3 h4 h5 h6 => exact ⟨_, _, rfl⟩
theorem VRel.func_some {f : Fn} {a b : Array Value} {v : Value} (h : VRel m (.func f a b) v) : ∃ a' b', v = .func f a' b' := by
  cases h with
  | flat v h => simp [flat1] at h
  | func f a b a' b' h1 h2 h3 h4 => exact ⟨_, _, rfl⟩
theorem eqGuard_of {op : BinOp} {t : TypeId} {x y : Operand} {a b : Value} (h : (match a with | .nilIface => false | .agg _ => false | _ => true) = true) : eqGuard op t x y a b = pure () := by
  cases a <;> first | (simp at h; done) | (cases op <;> rfl)
theorem nilEq_sound {t : TypeId} {D : TypeDesc} {a b a' b' : Value} {c : Bool} (hd : P.underlying t = some D) (ha : VRel m a a') (hb : VRel m b b') (h : nilEq D a b = some c) :
    (Op.equal t a' b').run P w = .ok c w ∧ ∀ (op : BinOp) (x y : Operand), eqGuard op t x y a' b' = pure () := by
  obtain ⟨d, e0⟩ : ∃ d, ∀ x y : Value, Op.equal t x y = Op.equalIn (d + 1) t x y := ⟨9999, fun _ _ => rfl⟩
  unfold nilEq at h
  split at h
  · cases h
    obtain ⟨ad', rfl⟩ := ha.ptr_some
    cases hb.flat_inv rfl
    exact ⟨by rw [e0]; simp only [Op.equalIn, Sem.run_bind, run_underlying hd, Result.andThen_ok, Sem.run_pure], fun _ _ _ => eqGuard_of rfl⟩
  · cases h
    obtain ⟨ad', rfl⟩ := hb.ptr_some
    cases ha.flat_inv rfl
    exact ⟨by rw [e0]; simp only [Op.equalIn, Sem.run_bind, run_underlying hd, Result.andThen_ok, Sem.run_pure, Option.isNone_some], fun _ _ _ => eqGuard_of rfl⟩
  · cases h
    obtain ⟨ad', c', rfl⟩ := ha.slice_some
    cases hb.flat_inv rfl
    exact ⟨by rw [e0]; simp only [Op.equalIn, Sem.run_bind, run_underlying hd, Result.andThen_ok, Sem.run_pure], fun _ _ _ => eqGuard_of rfl⟩
  · cases h
    obtain ⟨ad', c', rfl⟩ := hb.slice_some
    cases ha.flat_inv rfl
    exact ⟨by rw [e0]; simp only [Op.equalIn, Sem.run_bind, run_underlying hd, Result.andThen_ok, Sem.run_pure, Option.isNone_some], fun _ _ _ => eqGuard_of rfl⟩
  · cases h
    obtain ⟨a', b', rfl⟩ := ha.func_some
    cases hb.flat_inv rfl
    exact ⟨by rw [e0]; simp only [Op.equalIn, Sem.run_bind, run_underlying hd, Result.andThen_ok, Sem.run_pure], fun _ _ _ => eqGuard_of rfl⟩
  · cases h
    obtain ⟨a', b', rfl⟩ := hb.func_some
    cases ha.flat_inv rfl
    exact ⟨by rw [e0]; simp only [Op.equalIn, Sem.run_bind, run_underlying hd, Result.andThen_ok, Sem.run_pure], fun _ _ _ => eqGuard_of rfl⟩
  · cases h
theorem binOp_eql (t : TypeId) (a b : Value) (h : ∀ k n, a ≠ .int k n) (h2 : ∀ k n, a ≠ .float k n) (h3 : ∀ s, a ≠ .string s) (h4 : ∀ k n q, a ≠ .complex k n q) : binOp .eql t a b = (do pure (.bool (← Op.equal t a b))) := by
  cases a <;> first
    | exact (h _ _ rfl).elim
    | exact (h2 _ _ rfl).elim
    | exact (h3 _ rfl).elim
    | exact (h4 _ _ _ rfl).elim
    | rfl
theorem binOp_neq (t : TypeId) (a b : Value) (h : ∀ k n, a ≠ .int k n) (h2 : ∀ k n, a ≠ .float k n) (h3 : ∀ s, a ≠ .string s) (h4 : ∀ k n q, a ≠ .complex k n q) : binOp .neq t a b = (do pure (.bool (!(← Op.equal t a b)))) := by
  cases a <;> first
    | exact (h _ _ rfl).elim
    | exact (h2 _ _ rfl).elim
    | exact (h3 _ rfl).elim
    | exact (h4 _ _ _ rfl).elim
    | rfl
theorem nilEq_left {D : TypeDesc} {a b a' : Value} {c : Bool} (ha : VRel m a a') (h : nilEq D a b = some c) : (∀ k n, a' ≠ .int k n) ∧ (∀ k n, a' ≠ .float k n) ∧ (∀ s, a' ≠ .string s) ∧ (∀ k n q, a' ≠ .complex k n q) := by
  unfold nilEq at h
  split at h
  · obtain ⟨ad', rfl⟩ := ha.ptr_some; simp
  · cases ha.flat_inv rfl; simp
  · obtain ⟨ad', c', rfl⟩ := ha.slice_some; simp
  · cases ha.flat_inv rfl; simp
  · obtain ⟨a', b', rfl⟩ := ha.func_some; simp
  · cases ha.flat_inv rfl; simp
  · cases h
theorem bin_sound {op : BinOp} {t : TypeId} {ρ : Operand → Value} {x y : Operand} {a b v : Value} (ha : VRel m a (ρ x)) (hb : VRel m b (ρ y)) (h : bin P op t a b = some v) :
    ∃ v', (do eqGuard op t x y (ρ x) (ρ y); binOp op t (ρ x) (ρ y)).run P w = .ok v' w ∧ VRel m v v' := by
  unfold bin at h
  split at h
  · rename_i hf
    obtain ⟨f1, f2, f3⟩ := hf
    rw [ha.flat_inv f1, hb.flat_inv f2]
    cases hs : still P (binOp op t a b) with
    | none => rw [hs] at h; cases h
    | some u =>
      rw [hs] at h
      simp only [Option.bind_some] at h
      split at h
      · rename_i hfu
        cases h
        refine ⟨v, ?_, .flat _ hfu⟩
        have hg : eqGuard op t x y a b = pure () := by
          cases a <;> first | (simp [isNilI] at f3; done) | (simp [flat1] at f1; done) | (cases op <;> rfl)
        rw [hg]
        simp [still_run _ _ hs w]
      · cases h
  · split at h
    · cases hd : P.underlying t with
      | none => rw [hd] at h; cases h
      | some D =>
        rw [hd] at h
        simp only [Option.bind_some] at h
        cases hn : nilEq D a b with
        | none => rw [hn] at h; cases h
        | some c =>
          rw [hn] at h
          cases h
          obtain ⟨h1, h2⟩ := nilEq_sound (w := w) hd ha hb hn
          obtain ⟨q1, q2, q3, q4⟩ := nilEq_left ha hn
          refine ⟨.bool c, ?_, .flat _ rfl⟩
          rw [h2, binOp_eql _ _ _ q1 q2 q3 q4]
          simp [h1]
    · cases hd : P.underlying t with
      | none => rw [hd] at h; cases h
      | some D =>
        rw [hd] at h
        simp only [Option.bind_some] at h
        cases hn : nilEq D a b with
        | none => rw [hn] at h; cases h
        | some c =>
          rw [hn] at h
          cases h
          obtain ⟨h1, h2⟩ := nilEq_sound (w := w) hd ha hb hn
          obtain ⟨q1, q2, q3, q4⟩ := nilEq_left ha hn
          refine ⟨.bool !c, ?_, .flat _ rfl⟩
          rw [h2, binOp_neq _ _ _ q1 q2 q3 q4]
          simp [h1]
    · cases h
theorem un_sound {op : UnOp} {a a' v : Value} (ha : VRel m a a') (h : un P op a = some v) : ∃ v', (Op.unary op a').run P w = .ok v' w ∧ VRel m v v' := by
  unfold un at h
  split at h
  · rename_i hf
    rw [ha.flat_inv hf]
    cases hs : still P (Op.unary op a) with
    | none => rw [hs] at h; cases h
    | some u =>
      rw [hs] at h
      simp only [Option.bind_some] at h
      split at h
      · rename_i hfu; cases h; exact ⟨v, still_run _ _ hs w, .flat _ hfu⟩
      · cases h
  · cases h
theorem cv_sound {s d : TypeId} {a a' v : Value} (ha : VRel m a a') (h : cv P s d a = some v) : ∃ v', (convert s d a').run P w = .ok v' w ∧ VRel m v v' := by
  unfold cv at h
  split at h
  · rename_i hs hd
    cases h
    cases ha.int_inv
    exact ⟨_, by simp [convert, run_underlying hs, run_underlying hd, Conv.intToInt], .flat _ rfl⟩
  · rename_i hs hd
    cases h
    cases ha.str_inv
    refine ⟨_, ?_, .flat _ rfl⟩
    simp [convert, run_underlying hs, run_underlying hd]
  · cases h
end
end Go.AM
set_option linter.unusedVariables false
set_option linter.unusedSimpArgs false
namespace Go.AM
open Go.RowKit

section
variable {P : Program} {B0 : Nat} {w0 : World} {m : Mp} {H : AH} {w : World}

theorem rdN_len {k : Blk} {off n : Nat} {cs : List Value} (h : rdN k off n = some cs) : cs.length = n := by
  unfold rdN at h
  split at h
  · cases h; simp; omega
  · cases h
theorem cellsOfBytes_len (s : ByteArray) : (cellsOfBytes s).length = s.size := by simp [cellsOfBytes]
theorem cells_sound (R : Rel P B0 w0 m H w) {sz n : Nat} {x x' : Value} {cs : List Value} (hx : VRel m x x') (h : sliceCells sz H x n = some cs) :
    ∃ ds, LRel m cs ds ∧ (Builtin.firstCells sz n x').run P w = .ok ds.toArray w ∧ (Builtin.firstCells sz n x').run P w.drew = .ok ds.toArray w.drew ∧ ((∀ s, x ≠ .string s) ∨ sz = 1 → ds.length = n * sz) := by
  unfold sliceCells at h
  split at h
  · split at h
    · rename_i h0
      subst h0
      cases h
      cases hx.flat_inv rfl
      exact ⟨[], LRel.nil m, by simp [Builtin.firstCells], by simp [Builtin.firstCells], fun _ => by simp⟩
    · cases h
  · rename_i b off len cap
    obtain ⟨L, off', cap', hm, rfl, h1, h2, h3, h4, h5, h6⟩ := hx.slice_inv
    split at h
    · rename_i h0
      subst h0
      cases h
      exact ⟨[], LRel.nil m, by simp [Builtin.firstCells, loadCells, loadCellsFrom], by simp [Builtin.firstCells, loadCells, loadCellsFrom], fun _ => by simp⟩
    · split at h
      · cases hb : blk H b with
        | none => rw [hb] at h; cases h
        | some k =>
          rw [hb] at h
          simp only [Option.bind_some] at h
          obtain ⟨ds, hl, hc⟩ := (R.blks b L k hm hb).row h
          have hlen : ds.length = n * sz := by rw [← hl.1]; exact rdN_len h
          rcases h3 with rfl | h3
          · have e1 := run_loadCells_list (P := P) w _ ds hc
            have e2 := run_loadCells_list (P := P) w.drew _ ds hc
            rw [hlen] at e1 e2
            exact ⟨ds, hl, by simp [Builtin.firstCells, e1], by simp [Builtin.firstCells, e2], fun _ => hlen⟩
          · omega
      · cases h
  · rename_i s
    split at h
    · rename_i hn
      cases h
      cases hx.str_inv
      have e : ((s.extract 0 n).data.map fun b => Value.int .u8 b.toNat) = ((cellsOfBytes s).take n).toArray := by
        apply Array.ext'
        simp [cellsOfBytes, ByteArray.data_extract]
      refine ⟨_, LRel.of_flat _ ?_, by simp only [Builtin.firstCells]; rw [e]; rfl, by simp only [Builtin.firstCells]; rw [e]; rfl, fun hh => ?_⟩
      · rw [List.all_eq_true]
        intro v hv
        have := List.mem_of_mem_take hv
        simp only [cellsOfBytes, List.mem_map] at this
        obtain ⟨b, _, rfl⟩ := this
        rfl
      · rcases hh with hh | rfl
        · exact (hh s rfl).elim
        · rw [List.length_take, cellsOfBytes_len]; omega
    · cases h
  · cases h
theorem bytesOf_inv : ∀ (cs : List Value) (l : List UInt8), bytesOf cs = some l → ∃ ns : List Int, cs = ns.map (Value.int .u8) ∧ l = ns.map fun n => UInt8.ofNat n.toNat
  | [], l, h => by cases h; exact ⟨[], rfl, rfl⟩
  | v :: r, l, h => by
    unfold bytesOf at h
    split at h
    · rename_i he; cases he
    · rename_i n r' he
      cases he
      cases hr : bytesOf r with
      | none => rw [hr] at h; cases h
      | some l' =>
        rw [hr] at h
        cases h
        obtain ⟨ns, h1, h2⟩ := bytesOf_inv r l' hr
        exact ⟨n :: ns, by simp [h1], by simp [h2]⟩
    · cases h
theorem foldl_push (ns : List Int) : ∀ r : ByteArray, ns.foldl (fun r n => r.push (UInt8.ofNat n.toNat)) r = ⟨r.data ++ (ns.map fun n => UInt8.ofNat n.toNat).toArray⟩ := by
  induction ns with
  | nil => intro r; simp
  | cons n ns ih => intro r; rw [List.foldl_cons, ih]; simp [ByteArray.push]
theorem LRel.flat_eq {ns : List Int} {ds : List Value} (h : LRel m (ns.map (Value.int .u8)) ds) : ds = ns.map (Value.int .u8) := by
  apply List.ext_getElem?
  intro i
  rcases Nat.lt_or_ge i ns.length with h1 | h1
  · have h2 : i < ds.length := by rw [← h.1]; simpa using h1
    have e1 : (ns.map (Value.int .u8))[i]? = some (.int .u8 ns[i]) := by simp [h1]
    have := h.2 i _ _ e1 (List.getElem?_eq_getElem h2)
    rw [e1, List.getElem?_eq_getElem h2, this.int_inv]
  · rw [List.getElem?_eq_none (by rw [← h.1]; simpa using h1), List.getElem?_eq_none (by simpa using h1)]
theorem cvS_sound (R : Rel P B0 w0 m H w) {s d : TypeId} {a a' v : Value} (ha : VRel m a a') (h : cvS P s d H a = some v) : ∃ v', (convert s d a').run P w = .ok v' w ∧ VRel m v v' := by
  unfold cvS at h
  split at h
  · rename_i e ad len cap hs hd
    split at h
    · rename_i he
      cases hc : sliceCells 1 H (.slice ad len cap) len with
      | none => rw [hc] at h; cases h
      | some cs =>
        rw [hc] at h
        simp only [Option.bind_some] at h
        cases hb : bytesOf cs with
        | none => rw [hb] at h; cases h
        | some l =>
          rw [hb] at h
          cases h
          obtain ⟨ns, rfl, rfl⟩ := bytesOf_inv cs l hb
          obtain ⟨ds, h1, h2, _, h3⟩ := cells_sound R ha hc
          have hds := h1.flat_eq
          subst hds
          refine ⟨_, ?_, .flat _ rfl⟩
          cases ad with
          | none =>
            have hz : len = 0 ∧ cap = 0 := by
              unfold sliceCells at hc
              split at hc
              · rename_i he; cases he; exact ⟨rfl, rfl⟩
              · rename_i he; cases he
              · rename_i he; cases he
              · cases hc
            obtain ⟨rfl, rfl⟩ := hz
            have hn : ns = [] := by have := h3 (.inl fun s hs => by cases hs); simpa using this
            subst hn
            cases ha.flat_inv rfl
            rw [run_convert_bytes_string w s d e none 0 0 hs he hd]
            simp [Conv.bytesToString]
            rfl
          | some ad =>
            obtain ⟨ad', c', rfl⟩ := ha.slice_some
            rw [run_convert_bytes_string w s d e (some ad') len c' hs he hd]
            have e1 : (loadCells ad' len).run P w = .ok (ns.map (Value.int .u8)).toArray w := by simpa [Builtin.firstCells] using h2
            rw [run_bytesToString w ad' len c' ns e1, foldl_push]
            simp
    · cases h
  · cases h
theorem lenOf_sound {x x' : Value} {n : Nat} (hx : VRel m x x') (h : lenOf x = some n) (w : World) : (Builtin.lenOf x').run P w = .ok n w := by
  unfold lenOf at h
  split at h
  · cases h; cases hx.flat_inv rfl; rfl
  · cases h
    rename_i ad n c
    cases hx with
    | flat v hf => simp [flat1] at hf
    | slice => rfl
  · cases h; cases hx.str_inv; rfl
  · cases h
/-- append, where there is room. -/
theorem run_ap_room {t u ty e : TypeId} {i : TypeInfo} {D : TypeDesc} (ht : P.underlying t = some (.slice e)) (hu : P.underlying u = some D) (hD : (∃ e', D = .slice e') ∨ D = .string) (hi : P.info? e = some i) {x : Value} {n : Nat} (hn : (Builtin.lenOf x).run P w = .ok n w)
    {g o sLen sCap : Nat} {news : List Value} (hf : (Builtin.firstCells i.size n x).run P w = .ok news.toArray w) (hroom : sLen + n ≤ sCap) {w' : World} (hst : (storeCells ⟨g, o + sLen * i.size, none⟩ news).run P w = .ok () w') :
    (Builtin.append_ #[t, u] ty #[.slice (some ⟨g, o, none⟩) sLen sCap, x]).run P w = .ok (.slice (some ⟨g, o, none⟩) (sLen + n) sCap) w' := by
  rcases hD with ⟨e', rfl⟩ | rfl <;> simp [Builtin.append_, run_underlying ht, run_underlying hu, sizeOf, typeInfo, hi, hn, hroom, hf, Addr.add_lit, hst]
/-- append, where there is none. -/
theorem run_ap_grow {t u ty e : TypeId} {i : TypeInfo} {z : Value} {D : TypeDesc} (ht : P.underlying t = some (.slice e)) (hu : P.underlying u = some D) (hD : (∃ e', D = .slice e') ∨ D = .string) (hi : P.info? e = some i) (hz : i.zero = some z) {x : Value} {n : Nat} (hn : (Builtin.lenOf x).run P w = .ok n w)
    {b : Option Addr} {sLen sCap : Nat} {olds news : List Value} (hfo : (Builtin.firstCells i.size sLen (.slice b sLen sCap)).run P w.drew = .ok olds.toArray w.drew) (hf : (Builtin.firstCells i.size n x).run P w.drew = .ok news.toArray w.drew)
    (hg : sCap < sLen + n) (h63 : sLen + n ≤ 9223372036854775807) (hfit : (sLen + n) * i.bytes ≤ 140737488355328) :
    (Builtin.append_ #[t, u] ty #[.slice b sLen sCap, x]).run P w =
      .ok (.slice (some ⟨w.heap.size, 0, none⟩) (sLen + n) (grownCap w (sLen + n) sCap e))
        (w.drew.alloc (.cells (olds ++ news ++ (Builtin.zeroCells z.cells (grownCap w (sLen + n) sCap e - (sLen + n))).toList).toArray e)) := by
  have hnn : ¬ (sLen + n ≤ sCap) := by omega
  have h63' : ¬ (9223372036854775807 < ((sLen : Int) + (n : Int))) := by omega
  have h48 := growslice_fits hg hfit
  have h48' : ¬ (281474976710656 < Builtin.nextslicecap (sLen + n) sCap * i.bytes) := by omega
  rcases hD with ⟨e', rfl⟩ | rfl <;> (simp [Builtin.append_, run_underlying ht, run_underlying hu, sizeOf, typeInfo, zeroValue, hi, hz, hn, hnn, h63', h48', Question.forced, hf, hfo, newRow, grownCap]; congr 2; apply Array.ext'; simp)
theorem oneCells {xs ys : List Value} (h : LRel m xs ys) (ha : xs.all isCell = true) : ∀ u ∈ ys, u.oneCell' = true := by
  intro u hu
  obtain ⟨i, hi⟩ := List.getElem?_of_mem hu
  have hlt : i < xs.length := by rw [h.1]; exact (List.getElem?_eq_some_iff.1 hi).1
  have hx := List.getElem?_eq_getElem hlt
  exact (VRel.isCell (h.2 i _ _ hx hi) (List.all_eq_true.1 ha _ (List.mem_of_getElem? hx))).1
theorem grow_new {H0 : AH} (R : Rel P B0 w0 m H0 w) {e : TypeId} {i : TypeInfo} {z : Value} (hi : P.info? e = some i) (hzs : z.cells.size = i.size) {cs ks : List Value} {N cap : Nat} (hl : LRel m cs ks) (hN : ks.length = N * i.size) (hcap : N ≤ cap) :
    ∃ m', VRel m' (sl H0.length 0 N (N + 1)) (.slice (some ⟨w.heap.size, 0, none⟩) N cap) ∧ Rel P B0 w0 m' (mkB H0 cs e .grow) (w.drew.alloc (.cells (ks ++ (Builtin.zeroCells z.cells (cap - N)).toList).toArray e)) ∧
      Ext m H0 w m' (mkB H0 cs e .grow) (w.drew.alloc (.cells (ks ++ (Builtin.zeroCells z.cells (cap - N)).toList).toArray e)) := by
  obtain ⟨h3, h4⟩ := R.drew.make (P := P) cs e .grow (ks ++ (Builtin.zeroCells z.cells (cap - N)).toList).toArray (by decide) (by
    show LRel m cs ((ks ++ _).take cs.length)
    rw [hl.1, List.take_left]
    exact hl) (fun hk => by cases hk)
  refine ⟨_, VRel.newSl (upd_same _ _ _) rfl (Nat.le_succ _) hcap (fun hk => by cases hk) ?_ (fun _ => Nat.lt_succ_self _), h3, h4.drewL⟩
  intro _
  show cap * szT P e ≤ (ks ++ (Builtin.zeroCells z.cells (cap - N)).toList).toArray.size
  simp only [List.size_toArray, List.length_append, Array.length_toList, size_zeroCells, hN, hzs, szT_eq hi]
  rw [← Nat.add_mul]
  exact Nat.mul_le_mul_right _ (by omega)
theorem apS_sound (R : Rel P B0 w0 m H w) {t u ty e : TypeId} {i : TypeInfo} {z : Value} {D : TypeDesc} (ht : P.underlying t = some (.slice e)) (hu : P.underlying u = some D) (hD : (∃ e', D = .slice e') ∨ D = .string) (hi : P.info? e = some i) (hz : i.zero = some z)
    (hzs : z.cells.size = i.size) {s s' x x' v : Value} {n : Nat} {news : List Value} {H' : AH} (hs : VRel m s s') (hx : VRel m x x') (hsz0 : 0 < i.size) (hn : lenOf x = some n) (hc : sliceCells i.size H x n = some news) (hd1 : (∀ s, x ≠ .string s) ∨ i.size = 1) (hone : news.all isCell = true)
    (h : apS i.size i.bytes e H s n news = some (v, H')) :
    ∃ v' m' w', (Builtin.append_ #[t, u] ty #[s', x']).run P w = .ok v' w' ∧ VRel m' v v' ∧ Rel P B0 w0 m' H' w' ∧ Ext m H w m' H' w' := by
  have hnl := lenOf_sound (P := P) hx hn w
  obtain ⟨ds, hl, hf1, hf2, hdl⟩ := cells_sound R hx hc
  have hdl := hdl hd1
  have h1 := oneCells hl hone
  unfold apS at h
  split at h
  · cases hs.flat_inv rfl
    split at h
    · rename_i h0
      subst h0
      cases h
      have hd0 : ds = [] := by simpa using hdl
      subst hd0
      refine ⟨.slice none 0 0, m, w, ?_, .flat _ rfl, R, Ext.refl _ _ _⟩
      rcases hD with ⟨e', rfl⟩ | rfl <;> simp [Builtin.append_, run_underlying ht, run_underlying hu, sizeOf, typeInfo, hi, hnl, hf1]
    · rename_i h0
      split at h
      · rename_i hb
        cases h
        have hrun := run_ap_grow (P := P) (w := w) (ty := ty) (b := none) (sLen := 0) (sCap := 0) (olds := []) ht hu hD hi hz hnl (by simp [Builtin.firstCells]) hf2 (by omega) (by omega) (by rw [Nat.zero_add]; exact hb.1)
        simp only [Nat.zero_add, List.nil_append] at hrun
        obtain ⟨m', q1, q2, q3⟩ := grow_new R hi hzs hl hdl (grownCap_ge w n 0 e)
        exact ⟨_, m', _, hrun, q1, q2, q3⟩
      · cases h
  · rename_i b off len cap
    have hs0 := hs
    obtain ⟨L, off', cap', hm, rfl, g1, g2, g3, g4, g5, g8⟩ := hs.slice_inv
    split at h
    · rename_i h0
      subst h0
      cases h
      have hd0 : ds = [] := by simpa using hdl
      subst hd0
      exact ⟨_, m, w, run_ap_room ht hu hD hi hnl hf1 (by omega) (by simp [storeCells]), hs0, R, Ext.refl _ _ _⟩
    · rename_i hn0
      split at h
      · rename_i hc0
        subst hc0
        have hl0 : len = 0 := by omega
        subst hl0
        have hc0 : cap' = 0 := by
          by_cases hk : L.kind = .fix
          · exact (g4 hk).2
          · rcases g8 hk with g9 | g9
            · omega
            · exact g9.2
        subst hc0
        split at h
        · rename_i hb
          cases h
          have hrun := run_ap_grow (P := P) (w := w) (ty := ty) (b := some ⟨L.blk, off', none⟩) (sLen := 0) (sCap := 0) (olds := []) ht hu hD hi hz hnl (by simp [Builtin.firstCells, loadCells, loadCellsFrom]) hf2 (by omega) (by omega) (by rw [Nat.zero_add]; exact hb.1)
          simp only [Nat.zero_add, List.nil_append] at hrun
          obtain ⟨m', q1, q2, q3⟩ := grow_new R hi hzs hl hdl (grownCap_ge w n 0 e)
          exact ⟨_, m', _, hrun, q1, q2, q3⟩
        · cases h
      rename_i hcap0
      cases hb : blk H b with
      | none => rw [hb] at h; cases h
      | some k =>
        rw [hb] at h
        simp only [Option.bind_some] at h
        cases hr : rdN k off (len * i.size) with
        | none => rw [hr] at h; cases h
        | some old =>
          rw [hr] at h
          simp only [Option.bind_some] at h
          have hol := rdN_len hr
          -- the elder cells, as they are read
          have holds : ∃ os, LRel m old os ∧ os.length = len * i.size ∧ (Builtin.firstCells i.size len (.slice (some ⟨L.blk, off', none⟩) len cap')).run P w.drew = .ok os.toArray w.drew := by
            have hsc : sliceCells i.size H (.slice (some ⟨b, off, none⟩) len cap) len = some old := by
              unfold sliceCells
              simp only
              split
              · rename_i hl0
                subst hl0
                have : old = [] := by simpa using hol
                rw [this]
              · rw [if_pos (Nat.le_refl _), hb]
                exact hr
            obtain ⟨os, q1, _, q3, q4⟩ := cells_sound R hs0 hsc
            exact ⟨os, q1, q4 (.inl fun s hs => by cases hs), q3⟩
          obtain ⟨os, q1, q2, q3⟩ := holds
          split at h
          · rename_i hcond
            obtain ⟨c1, c2, c3⟩ := hcond
            split at h
            · cases h
            · rename_i hk
              have hLk : L.kind = .fix := by rw [(R.blks b L k hm hb).kind]; exact hk
              obtain ⟨g6, g7⟩ := g4 hLk
              subst g7 g6
              split at h
              · rename_i hle
                split at h
                · rename_i hfit
                  cases h
                  have hnews : news.length = n * i.size := by rw [hl.1, hdl]
                  have hfit' : off + len * i.size + news.length ≤ k.cells.length := by rw [hnews, Nat.add_assoc, ← Nat.add_mul]; exact hfit
                  obtain ⟨w', r1, r2, r3⟩ := store_sound R hm hb (by rw [hk]; decide) (off := off + len * i.size) hfit' hl h1
                  rw [← Nat.add_assoc] at r1
                  refine ⟨_, m, w', run_ap_room ht hu hD hi hnl hf1 hle r1, ?_, r2, r3⟩
                  exact .slice b off _ (len + n) cap' cap' L hm hle hle (.inl rfl) (fun _ => ⟨rfl, rfl⟩) (fun hx => by rw [hLk] at hx; cases hx) (fun hx => (hx hLk).elim)
                · cases h
              · rename_i hle
                cases h
                have hrun := run_ap_grow (P := P) (w := w) (ty := ty) (olds := os) ht hu hD hi hz hnl q3 hf2 (show cap' < len + n by omega) c2 c1
                obtain ⟨m', r1, r2, r3⟩ := grow_new R hi hzs (q1.append hl) (N := len + n) (cap := grownCap w (len + n) cap' e) (by rw [List.length_append, q2, hdl, Nat.add_mul]) (grownCap_ge w _ _ e)
                exact ⟨_, m', _, hrun, r1, r2, r3⟩
            · rename_i hk
              split at h
              · rename_i hoff
                subst hoff
                have hcp : 0 < cap := by omega
                cases h
                have hLk : L.kind = .grow := by rw [(R.blks b L k hm hb).kind]; exact hk
                have hcs := g5 hLk rfl hcp
                by_cases hle : len + n ≤ cap'
                · obtain ⟨c, e', fr, hw, hlr, h3, h4, h5⟩ := (R.blks b L k hm hb).there
                  obtain ⟨rfl, he, hbs⟩ := h3 (by rw [hk]; decide)
                  have hcsz := h5 hk
                  have hesz : L.esz = i.size := by rw [(R.blks b L k hm hb).esz hk, c3, szT_eq hi]
                  have hin : off' + len * i.size + ds.length ≤ c.size := by
                    rw [hdl, hcsz, Nat.add_assoc, ← Nat.add_mul]
                    have : (len + n) * i.size ≤ cap' * i.size := Nat.mul_le_mul_right _ hle
                    rw [hesz] at hcs
                    omega
                  have hst := run_storeCells_at P L.blk (off' + len * i.size) e' ds 0 c w hw (by omega) h1
                  have hrun := run_ap_room (P := P) (w := w) (ty := ty) ht hu hD hi hnl hf1 hle hst
                  simp only [Nat.add_zero] at hst hrun
                  have hcl : c.toList.length = c.size := by simp
                  have hold : LRel m old ((c.toList.drop off').take (len * i.size)) := by
                    unfold rdN at hr
                    split at hr
                    · rename_i hle2
                      cases hr
                      rcases g3 with g3 | g3
                      · have := (hlr.drop 0).take (len * i.size)
                        simp only [List.drop_zero] at this
                        rw [List.take_take, Nat.min_eq_left (by omega)] at this
                        rw [List.drop_zero, g3, Nat.add_zero]
                        exact this
                      · subst g3
                        simp only [Nat.zero_mul, List.take_zero]
                        exact LRel.nil m
                    · cases hr
                  have hcut : ((c.toList.take (off' + len * i.size) ++ ds ++ c.toList.drop (off' + len * i.size + ds.length)).toArray.toList.drop off').take (old ++ news).length = (c.toList.drop off').take (len * i.size) ++ ds := by
                    have hnl2 : (old ++ news).length = len * i.size + ds.length := by rw [List.length_append, hol, hl.1]
                    rw [hnl2]
                    apply List.ext_getElem?
                    intro j
                    simp only [List.getElem?_take, List.getElem?_drop, List.getElem?_append, List.length_take, List.length_drop, List.length_append]
                    rw [hcl]
                    by_cases j1 : j < len * i.size
                    · rw [if_pos (by omega), if_pos (by omega), if_pos (by omega), if_pos (by omega), if_pos (by omega), if_pos (by omega)]
                    · by_cases j2 : j < len * i.size + ds.length
                      · rw [if_pos (by omega), if_pos (by omega), if_neg (by omega), if_neg (by omega)]
                        congr 1
                        omega
                      · rw [if_neg (by omega), if_neg (by omega), List.getElem?_eq_none (by omega)]
                  obtain ⟨r2, r3⟩ := R.regrow (P := P) hm hb hk hw off' (old ++ news) (c.toList.take (off' + len * i.size) ++ ds ++ c.toList.drop (off' + len * i.size + ds.length)).toArray (by simp; omega) (by simp; omega) (by
                    rw [hcut]
                    exact hold.append hl)
                  rw [c3] at r2 r3
                  refine ⟨_, _, _, hrun, ?_, r2, r3⟩
                  refine .slice H.length 0 off' (len + n) (len + n + 1) cap' ⟨L.blk, off', .grow, L.csize, L.esz⟩ (upd_same _ _ _) (Nat.le_succ _) hle (.inl rfl) (fun hx => by cases hx) (fun _ _ _ => hcs) (fun _ => .inl (Nat.lt_succ_self _))
                · have hrun := run_ap_grow (P := P) (w := w) (ty := ty) (olds := os) ht hu hD hi hz hnl q3 hf2 (show cap' < len + n by omega) c2 c1
                  obtain ⟨R2, X2⟩ := R.killed b
                  obtain ⟨m', r1, r2, r3⟩ := grow_new R2 hi hzs (q1.append hl) (N := len + n) (cap := grownCap w (len + n) cap' e) (by rw [List.length_append, q2, hdl, Nat.add_mul]) (grownCap_ge w _ _ e)
                  rw [length_kill'] at r1
                  exact ⟨_, m', _, hrun, r1, r2, Ext.trans (fun b L hb => (R.dom b L hb).1) X2 r3⟩
              · cases h
          · cases h
  · cases h
end
end Go.AM
set_option linter.unusedVariables false
set_option linter.unusedSimpArgs false
namespace Go.AM
open Go.RowKit

section
variable {P : Program} {B0 : Nat} {w0 : World} {m : Mp} {H : AH} {w : World}

theorem run_cpy {t u ty e : TypeId} {i : TypeInfo} (hd : P.underlying t = some (.slice e)) (hi : P.info? e = some i) {x : Value} {n len cap : Nat} {ad : Option Addr} {ds : List Value} {w' : World} (hn : (Builtin.lenOf x).run P w = .ok n w)
    (hf : (Builtin.firstCells i.size (min n len) x).run P w = .ok ds.toArray w) (hst : ∀ a, ad = some a → (storeCells a ds).run P w = .ok () w') (hno : ad = none → w' = w) :
    (Builtin.copy_ #[t, u] ty #[.slice ad len cap, x]).run P w = .ok (goInt (min n len : Nat)) w' := by
  have hm : n.min len = min n len := rfl
  cases ad with
  | none => cases hno rfl; simp [Builtin.copy_, run_underlying hd, hn, sizeOf, typeInfo, hi, hm, hf]
  | some a => simp [Builtin.copy_, run_underlying hd, hn, sizeOf, typeInfo, hi, hm, hf, hst a rfl]
theorem sliceCells_zero {sz : Nat} {x : Value} {cs : List Value} (h : sliceCells sz H x 0 = some cs) : cs = [] := by
  unfold sliceCells at h
  split at h
  · rw [if_pos rfl] at h; cases h; rfl
  · rw [if_pos rfl] at h; cases h; rfl
  · split at h
    · cases h; rfl
    · cases h
  · cases h
theorem cpy_sound (R : Rel P B0 w0 m H w) {t u ty : TypeId} {s s' x x' v : Value} {H' : AH} (hs : VRel m s s') (hx : VRel m x x') (h : cpy P t H s x = some (v, H')) :
    ∃ v' w', (Builtin.copy_ #[t, u] ty #[s', x']).run P w = .ok v' w' ∧ VRel m v v' ∧ Rel P B0 w0 m H' w' ∧ Ext m H w m H' w' := by
  unfold cpy at h
  split at h
  · rename_i e b off len cap hd
    split at h
    · cases h
    · rename_i hinf
      simp only [Bool.not_eq_false] at hinf
      obtain ⟨i, hi⟩ := isSome_info hinf
      cases hn : lenOf x with
      | none => rw [hn] at h; cases h
      | some n =>
        rw [hn] at h
        simp only [Option.bind_some] at h
        cases hc : sliceCells (szT P e) H x (min n len) with
        | none => rw [hc] at h; cases h
        | some cs =>
          rw [hc] at h
          simp only [Option.bind_some] at h
          have hnl := lenOf_sound (P := P) hx hn w
          obtain ⟨ds, hl, hf1, _, _⟩ := cells_sound R hx hc
          obtain ⟨L, off', cap', hm, rfl, g1, g2, g3, g4, g5, g8⟩ := hs.slice_inv
          rw [szT_eq hi] at hf1
          split at h
          · rename_i h0
            cases h
            rw [h0] at hc
            have := sliceCells_zero hc
            subst this
            have hds : ds = [] := hl.nil_inv
            subst hds
            refine ⟨_, w, run_cpy hd hi hnl hf1 (fun a _ => by simp [storeCells]) (fun h => by cases h), ?_, R, Ext.refl _ _ _⟩
            rw [h0]
            exact .flat _ rfl
          · rename_i h0
            cases hb : blk H b with
            | none => rw [hb] at h; cases h
            | some k =>
              rw [hb] at h
              simp only [Option.bind_some] at h
              split at h
              · rename_i hcond
                obtain ⟨c1, c2, c4⟩ := hcond
                cases h
                have h1 := oneCells hl c4
                have g3 : off' = L.base + off := by omega
                subst g3
                obtain ⟨w', r1, r2, r3⟩ := store_sound R hm hb c1 (off := off) c2 hl h1
                exact ⟨_, w', run_cpy hd hi hnl hf1 (fun a ha => by cases ha; exact r1) (fun h => by cases h), .flat _ rfl, r2, r3⟩
              · cases h
  · rename_i e hd
    split at h
    · cases h
    · rename_i hinf
      simp only [Bool.not_eq_false] at hinf
      obtain ⟨i, hi⟩ := isSome_info hinf
      cases hn : lenOf x with
      | none => rw [hn] at h; cases h
      | some n =>
        rw [hn] at h
        cases h
        cases hs.flat_inv rfl
        have hnl := lenOf_sound (P := P) hx hn w
        have hf : (Builtin.firstCells i.size (min n 0) x').run P w = .ok (([] : List Value).toArray) w := by
          rw [Nat.min_zero]
          unfold lenOf at hn
          split at hn
          · cases hx.flat_inv rfl; simp [Builtin.firstCells]
          · obtain ⟨ad', c', rfl⟩ := hx.slice_some; simp [Builtin.firstCells, loadCells, loadCellsFrom]
          · cases hx.str_inv; simp [Builtin.firstCells]
          · cases hn
        refine ⟨_, w, run_cpy hd hi hnl hf (fun a ha => by cases ha) (fun _ => rfl), ?_, R, Ext.refl _ _ _⟩
        rw [Nat.min_zero]
        exact .flat _ rfl
  · cases h
theorem lenV_sound {t u ty : TypeId} {x x' v : Value} (hx : VRel m x x') (h : lenV P t x = some v) : (Builtin.len_ #[t] ty #[x']).run P w = .ok v w ∧ flat1 v = true := by
  unfold lenV at h
  split at h
  · rename_i s hd
    cases h
    cases hx.str_inv
    exact ⟨by simp [Builtin.len_, run_underlying hd, goInt], rfl⟩
  · rename_i e a n c hd
    cases h
    cases hx with
    | flat v hf =>
      exact ⟨by simp [Builtin.len_, run_underlying hd, goInt], rfl⟩
    | slice => exact ⟨by simp [Builtin.len_, run_underlying hd, goInt], rfl⟩
  · rename_i n e hd
    cases h
    exact ⟨by simp [Builtin.len_, run_underlying hd, goInt], rfl⟩
  · cases h
theorem min2_sound {x y x' y' v : Value} (hx : VRel m x x') (hy : VRel m y y') (h : minV x y = some v) : (Builtin.min2 x' y').run P w = .ok v w ∧ flat1 v = true := by
  unfold minV at h
  split at h
  · cases h; cases hx.int_inv; cases hy.int_inv; exact ⟨by simp [Builtin.min2], rfl⟩
  · cases h
theorem max2_sound {x y x' y' v : Value} (hx : VRel m x x') (hy : VRel m y y') (h : maxV x y = some v) : (Builtin.max2 x' y').run P w = .ok v w ∧ flat1 v = true := by
  unfold maxV at h
  split at h
  · cases h; cases hx.int_inv; cases hy.int_inv; exact ⟨by simp [Builtin.max2], rfl⟩
  · cases h
theorem foldgo_sound (f : Value → Value → Option Value) (g : Value → Value → Sem Value) (hfg : ∀ {x y x' y' v : Value}, VRel m x x' → VRel m y y' → f x y = some v → (g x' y').run P w = .ok v w ∧ flat1 v = true) :
    ∀ (xs ys : List Value) (x x' v : Value), VRel m x x' → LRel m xs ys → fold1.go f x xs = some v → ∃ v', (ys.foldlM g x').run P w = .ok v' w ∧ VRel m v v'
  | [], ys, x, x', v, hx, hl, h => by
    cases hl.nil_inv
    cases h
    exact ⟨x', by simp [List.foldlM], hx⟩
  | y :: xs, ys, x, x', v, hx, hl, h => by
    obtain ⟨y', zs, rfl, hy, hr⟩ := hl.cons_inv
    unfold fold1.go at h
    cases hf : f x y with
    | none => rw [hf] at h; cases h
    | some u =>
      rw [hf] at h
      obtain ⟨h1, h2⟩ := hfg hx hy hf
      obtain ⟨v', h3, h4⟩ := foldgo_sound f g hfg xs zs u u v (.flat _ h2) hr h
      exact ⟨v', by simp [List.foldlM_cons, h1, h3], h4⟩
theorem min_sound {ts : Array TypeId} {ty : TypeId} {xs ys : List Value} {v : Value} (hl : LRel m xs ys) (h : fold1 minV xs = some v) : ∃ v', (Builtin.min_ ts ty ys.toArray).run P w = .ok v' w ∧ VRel m v v' := by
  cases xs with
  | nil => cases h
  | cons x xs =>
    obtain ⟨x', zs, rfl, hx, hr⟩ := hl.cons_inv
    obtain ⟨v', h1, h2⟩ := foldgo_sound (P := P) (w := w) minV Builtin.min2 (fun hx hy h => min2_sound hx hy h) xs zs x x' v hx hr h
    exact ⟨v', by simpa [Builtin.min_] using h1, h2⟩
theorem max_sound {ts : Array TypeId} {ty : TypeId} {xs ys : List Value} {v : Value} (hl : LRel m xs ys) (h : fold1 maxV xs = some v) : ∃ v', (Builtin.max_ ts ty ys.toArray).run P w = .ok v' w ∧ VRel m v v' := by
  cases xs with
  | nil => cases h
  | cons x xs =>
    obtain ⟨x', zs, rfl, hx, hr⟩ := hl.cons_inv
    obtain ⟨v', h1, h2⟩ := foldgo_sound (P := P) (w := w) maxV Builtin.max2 (fun hx hy h => max2_sound hx hy h) xs zs x x' v hx hr h
    exact ⟨v', by simpa [Builtin.max_] using h1, h2⟩
theorem ext_sound {a a' v : Value} {i : Nat} (ha : VRel m a a') (h : ext a i = some v) : ∃ v', (Instr.extract a' i).run P w = .ok v' w ∧ VRel m v v' := by
  unfold ext at h
  split at h
  · rename_i vs
    obtain ⟨ys, rfl, hl⟩ := ha.tuple_inv
    have hlt := (Array.getElem?_eq_some_iff.1 h).1
    have hlt2 : i < ys.size := by have := hl.1; simp at this; omega
    have e1 : ys[i]? = some ys[i] := Array.getElem?_eq_getElem hlt2
    exact ⟨ys[i], by simp [Instr.extract, e1], hl.2 i _ _ (by simpa using h) (by simpa using e1)⟩
  · cases h
end
end Go.AM
set_option linter.unusedVariables false
set_option linter.unusedSimpArgs false
namespace Go.AM
open Go.RowKit

def Enterable (P : Program) (f : FuncId) : Prop := ∃ fn, P.funcs[f]? = some fn ∧ fn.name ≠ "runtime.NumGoroutine" ∧ fn.body.isSome = true
/-- What a call comes to. -/
def SimCall (P : Program) (f : FuncId) (args : List Value) (H : AH) (v : Value) (H' : AH) : Prop :=
  ∀ (B0 : Nat) (w0 : World) (m : Mp) (w : World) (args' : List Value), Rel P B0 w0 m H w → LRel m args args' →
    Calls P f args'.toArray w fun e w' => ∃ m' v', e = .returned v' ∧ VRel m' v v' ∧ Rel P B0 w0 m' H' w' ∧ Ext m H w m' H' w'
def CallOK (P : Program) (call : CallF) : Prop := ∀ f args H v H', call f args H = some (v, H') → Enterable P f ∧ SimCall P f args H v H'
def OpSim (P : Program) (B0 : Nat) (w0 : World) (o : Oper) (a : Act) (m : Mp) (H : AH) (w : World) (v : Value) (H' : AH) : Prop :=
  ∀ (next : Act → World → Prop) (Q : Exit → Act → World → Prop), (∀ m' v' w', Ext m H w m' H' w' → Rel P B0 w0 m' H' w' → VRel m' v v' → next (a.put o.dst v') w') → o.wp P a w next Q

section
variable {P : Program} {B0 : Nat} {w0 : World} {m : Mp} {H : AH} {w : World} {call : CallF} {R : Type}

theorem run_callFunc {f : FuncId} (h : Enterable P f) (args : Array Value) (w : World) : (callFunc f args).run P w = .ok (.enter f args) w := by
  obtain ⟨fn, h1, h2, h3⟩ := h
  obtain ⟨c, hc⟩ := Option.isSome_iff_exists.1 h3
  simp [callFunc, program, Sem.run, h1, h2, hc]
theorem OpSim.value {o : Oper} {a : Act} {v v' : Value} {H' : AH} {m' : Mp} {w' : World} (hr : (execOp a.eval o).run P w = .ok (.value v') w') (hv : VRel m' v v') (R' : Rel P B0 w0 m' H' w') (E : Ext m H w m' H' w') : OpSim P B0 w0 o a m H w v H' :=
  fun next Q h => by unfold Oper.wp; rw [hr]; exact h m' v' w' E R' hv
theorem OpSim.still {o : Oper} {a : Act} {v v' : Value} (R' : Rel P B0 w0 m H w) (hr : (execOp a.eval o).run P w = .ok (.value v') w) (hv : VRel m v v') : OpSim P B0 w0 o a m H w v H :=
  OpSim.value hr hv R' (Ext.refl _ _ _)
theorem OpSim.skip {o : Oper} {a : Act} {H' : AH} {w' : World} (hr : (execOp a.eval o).run P w = .ok .skip w') (R' : Rel P B0 w0 m H' w') (E : Ext m H w m H' w') : OpSim P B0 w0 o a m H w undef H' :=
  fun next Q h => by unfold Oper.wp; rw [hr]; exact h m undef w' E R' (VRel.undef _)
theorem opv_rel {T : List Value} {a : Act} (hT : LRel m T a.tmps.toList) (x : Operand) : VRel m (opv T x) (a.eval x) := by
  cases x with
  | tmp t =>
    simp only [opv, Act.eval]
    rcases Nat.lt_or_ge t T.length with h | h
    · have hlen : T.length = a.tmps.size := hT.1.trans Array.length_toList
      have h2 : t < a.tmps.size := hlen ▸ h
      have e1 : T[t]? = some T[t] := List.getElem?_eq_getElem h
      have e2 : a.tmps.toList[t]? = some a.tmps[t] := by simp [h2]
      have := hT.2 t _ _ e1 e2
      simpa [List.getD, e1, Array.getD, h2] using this
    · have h2 : a.tmps.size ≤ t := by have hlen : T.length = a.tmps.size := hT.1.trans Array.length_toList; omega
      have e1 : T[t]? = none := List.getElem?_eq_none h
      simp [List.getD, e1, Array.getD, Nat.not_lt.2 h2]
      exact VRel.undef _
  | const v =>
    simp only [opv, Act.eval]
    split
    · rename_i hf; exact VRel.of_flat hf
    · exact .unk _
  | global g => exact .unk _
  | func f => exact .func f _ _ _ _ rfl (fun i x y h => by simp at h) rfl (fun i x y h => by simp at h)
theorem parts_rel {T : List Value} {a : Act} (hT : LRel m T a.tmps.toList) : ∀ ps : List (Nat × Operand), PRel m (ps.map fun p => (p.1, opv T p.2)) (ps.map fun p => (p.1, a.eval p.2))
  | [] => trivial
  | p :: ps => ⟨rfl, opv_rel hT p.2, parts_rel hT ps⟩
theorem args_rel {T : List Value} {a : Act} (hT : LRel m T a.tmps.toList) (l : List Operand) : LRel m (l.map (opv T)) (l.map a.eval) := LRel.map _ _ l fun x _ => opv_rel hT x
theorem opt_rel {T : List Value} {a : Act} (hT : LRel m T a.tmps.toList) (x : Option Operand) : ORel m (x.map (opv T)) (x.map a.eval) := by
  cases x with
  | none => exact .inl ⟨rfl, rfl⟩
  | some x => exact .inr ⟨_, _, rfl, rfl, opv_rel hT x⟩
theorem bind_some {α β : Type} {x : Option α} {f : α → Option β} {r : β} (h : x.bind f = some r) : ∃ a, x = some a ∧ f a = some r := by
  cases x with
  | none => cases h
  | some a => exact ⟨a, rfl, h⟩
theorem nilChk_sound {dst : Option Tmp} {x : Operand} {ty : TypeId} {ps : String} {af : Array Edge} {g : Option (Nat × Bool)} {a : Act} {T : List Value} {v : Value} (hT : LRel m T a.tmps.toList) (h : nilChk (opv T x) = some v) :
    ∃ v', (execOp a.eval ⟨dst, .nilCheck x, ty, ps, af, g⟩).run P w = .ok (.value v') w ∧ VRel m v v' := by
  have hx := opv_rel hT x
  unfold nilChk at h
  split at h
  · rename_i ad he
    cases h
    rw [he] at hx
    obtain ⟨ad', hx'⟩ := hx.ptr_some
    exact ⟨.pointer (some ad'), by simp [execOp, hx'], by rw [← hx']; exact hx⟩
  · rename_i f u1 u2 he
    cases h
    rw [he] at hx
    obtain ⟨a', b', hx'⟩ := hx.func_some
    exact ⟨.func (.func f) a' b', by simp [execOp, hx'], by rw [← hx']; exact hx⟩
  · cases h
theorem call_sound (hcall : CallOK P call) (R0 : Rel P B0 w0 m H w) {T : List Value} {a : Act} (hT : LRel m T a.tmps.toList) {dst : Option Tmp} {c : Call} {ty : TypeId} {ps : String} {af : Array Edge} {g : Option (Nat × Bool)} {K : Value → AH → Option R} {r : R}
    (h : aCall P call (opv T) c H K = some r) : ∃ v H', K v H' = some r ∧ OpSim P B0 w0 ⟨dst, .call c, ty, ps, af, g⟩ a m H w v H' := by
  obtain ⟨callee, cargs, ctypes⟩ := c
  unfold aCall at h
  split at h
  · rename_i f hc
    simp only at hc
    subst hc
    obtain ⟨p, h1, h2⟩ := bind_some h
    refine ⟨p.1, p.2, h2, ?_⟩
    unfold callV at h1
    split at h1
    · rename_i q first captured hf
      have hfr := opv_rel hT f
      rw [hf] at hfr
      obtain ⟨hen, hsim⟩ := hcall _ _ _ _ _ h1
      have hsplit : ∃ a' b', a.eval f = .func (.func q) a' b' ∧ LRel m first.toList a'.toList ∧ LRel m captured.toList b'.toList := by
        generalize a.eval f = u at hfr
        cases hfr with
        | flat v hf => simp [flat1] at hf
        | func f a b a' b' h1 h2 h3 h4 => exact ⟨a', b', rfl, ⟨by simpa using h1, fun i x y hx hy => h2 i x y (by simpa using hx) (by simpa using hy)⟩, ⟨by simpa using h3, fun i x y hx hy => h4 i x y (by simpa using hx) (by simpa using hy)⟩⟩
      obtain ⟨a', b', he, hla, hlb⟩ := hsplit
      intro next Q hn
      have hrun : (execOp a.eval ⟨dst, .call ⟨.value f, cargs, ctypes⟩, ty, ps, af, g⟩).run P w = .ok (.enter q (a' ++ cargs.map a.eval ++ b')) w := by
        simp [execOp, resolve, he, Deferred.ofValue, invoke, run_callFunc hen]
      unfold Oper.wp
      rw [hrun]
      simp only [Oper.upon]
      have hargs := hsim B0 w0 m w (a'.toList ++ (cargs.toList.map a.eval ++ b'.toList)) R0 (hla.append ((args_rel hT _).append hlb))
      have he2 : (a'.toList ++ (cargs.toList.map a.eval ++ b'.toList)).toArray = a' ++ cargs.map a.eval ++ b' := by
        apply Array.ext'
        simp
      rw [he2] at hargs
      refine hargs.mono fun e w' he => ?_
      obtain ⟨m', v', rfl, q1, q2, q3⟩ := he
      exact hn m' v' w' q3 q2 q1
    · cases h1
  · rename_i hc
    simp only at hc
    subst hc
    split at h
    · rename_i t u s x ht ha
      simp only at ht ha
      obtain ⟨p, h1, h2⟩ := bind_some h
      refine ⟨p.1, p.2, h2, ?_⟩
      have e1 : ctypes = #[t, u] := by apply Array.ext'; simpa using ht
      have e2 : cargs = #[s, x] := by apply Array.ext'; simpa using ha
      subst e1 e2
      have hs := opv_rel hT s
      have hx := opv_rel hT x
      have hrun : ∀ v' w', (Builtin.append_ #[t, u] ty #[a.eval s, a.eval x]).run P w = .ok v' w' → (execOp a.eval ⟨dst, .call ⟨.builtin .append, #[s, x], #[t, u]⟩, ty, ps, af, g⟩).run P w = .ok (.value v') w' := by
        intro v' w' hv
        simp [execOp, resolve, invoke, builtin, hv]
      unfold ap at h1
      split at h1
      · rename_i e e' hd1 hd2
        obtain ⟨z, hz, h1⟩ := bind_some h1
        split at h1
        · rename_i hcond
          obtain ⟨c1, c2, c3⟩ := hcond
          obtain ⟨n, hn, h1⟩ := bind_some h1
          obtain ⟨news, hnews, h1⟩ := bind_some h1
          split at h1
          · rename_i hall
            obtain ⟨i, hi, hz1, hz2⟩ := zeroT_inv hz
            rw [szT_eq hi] at c1 c2 hnews h1
            rw [byT_eq hi] at h1
            obtain ⟨v', m', w', q1, q2, q3, q4⟩ := apS_sound R0 (ty := ty) hd1 hd2 (.inl ⟨e', rfl⟩) hi hz1 c2 hs hx c1 hn hnews (.inl fun s hs => by rw [hs] at c3; cases c3) hall h1
            exact OpSim.value (hrun _ _ q1) q2 q3 q4
          · cases h1
        · cases h1
      · rename_i e hd1 hd2
        obtain ⟨z, hz, h1⟩ := bind_some h1
        split at h1
        · rename_i hcond
          obtain ⟨c1, c2⟩ := hcond
          obtain ⟨n, hn, h1⟩ := bind_some h1
          obtain ⟨news, hnews, h1⟩ := bind_some h1
          split at h1
          · rename_i hall
            obtain ⟨i, hi, hz1, hz2⟩ := zeroT_inv hz
            rw [szT_eq hi] at c1 c2 hnews h1
            rw [byT_eq hi] at h1
            obtain ⟨v', m', w', q1, q2, q3, q4⟩ := apS_sound R0 (ty := ty) hd1 hd2 (.inr rfl) hi hz1 c2 hs hx (by omega) hn hnews (.inr c1) hall h1
            exact OpSim.value (hrun _ _ q1) q2 q3 q4
          · cases h1
        · cases h1
      · cases h1
    · cases h
  · rename_i hc
    simp only at hc
    subst hc
    split at h
    · rename_i t u s x ht ha
      simp only at ht ha
      obtain ⟨p, h1, h2⟩ := bind_some h
      refine ⟨p.1, p.2, h2, ?_⟩
      have e1 : ctypes = #[t, u] := by apply Array.ext'; simpa using ht
      have e2 : cargs = #[s, x] := by apply Array.ext'; simpa using ha
      subst e1 e2
      obtain ⟨v', w', q1, q2, q3, q4⟩ := cpy_sound R0 (u := u) (ty := ty) (opv_rel hT s) (opv_rel hT x) h1
      exact OpSim.value (by simp [execOp, resolve, invoke, builtin, q1]) q2 q3 q4
    · cases h
  · rename_i hc
    simp only at hc
    subst hc
    split at h
    · rename_i t x ht ha
      simp only at ht ha
      obtain ⟨v, h1, h2⟩ := bind_some h
      refine ⟨v, H, h2, ?_⟩
      have e1 : ctypes = #[t] := by apply Array.ext'; simpa using ht
      have e2 : cargs = #[x] := by apply Array.ext'; simpa using ha
      subst e1 e2
      obtain ⟨q1, q2⟩ := lenV_sound (P := P) (u := 0) (ty := ty) (w := w) (opv_rel hT x) h1
      exact OpSim.still R0 (by simp [execOp, resolve, invoke, builtin, q1]) (.flat _ q2)
    · cases h
  · rename_i hc
    simp only at hc
    subst hc
    obtain ⟨v, h1, h2⟩ := bind_some h
    refine ⟨v, H, h2, ?_⟩
    obtain ⟨v', q1, q2⟩ := min_sound (P := P) (w := w) (ts := ctypes) (ty := ty) (args_rel hT cargs.toList) h1
    have e1 : (cargs.toList.map a.eval).toArray = cargs.map a.eval := by apply Array.ext'; simp
    rw [e1] at q1
    exact OpSim.still R0 (by simp [execOp, resolve, invoke, builtin, q1]) q2
  · rename_i hc
    simp only at hc
    subst hc
    obtain ⟨v, h1, h2⟩ := bind_some h
    refine ⟨v, H, h2, ?_⟩
    obtain ⟨v', q1, q2⟩ := max_sound (P := P) (w := w) (ts := ctypes) (ty := ty) (args_rel hT cargs.toList) h1
    have e1 : (cargs.toList.map a.eval).toArray = cargs.map a.eval := by apply Array.ext'; simp
    rw [e1] at q1
    exact OpSim.still R0 (by simp [execOp, resolve, invoke, builtin, q1]) q2
  · cases h
end
end Go.AM
set_option linter.unusedVariables false
set_option linter.unusedSimpArgs false
namespace Go.AM
open Go.RowKit

section
variable {P : Program} {B0 : Nat} {w0 : World} {m : Mp} {H : AH} {w : World} {call : CallF} {R : Type}
theorem aIf_inv {v : Value} {x y : Option R} {r : R} (h : aIf v x y = some r) : ∃ b, v = .bool b ∧ (if b then x else y) = some r := by
  unfold aIf at h
  split at h
  · exact ⟨true, rfl, h⟩
  · exact ⟨false, rfl, h⟩
  · cases h
theorem LRel.arr {xs : Array Operand} {T : List Value} {a : Act} (hT : LRel m T a.tmps.toList) : (xs.toList.map (opv T)).toArray.size = (xs.map a.eval).size ∧ ∀ (i : Nat) (x y : Value), (xs.toList.map (opv T)).toArray[i]? = some x → (xs.map a.eval)[i]? = some y → VRel m x y := by
  refine ⟨by simp, fun i x y hx hy => ?_⟩
  rw [Array.getElem?_map] at hy
  have hx : (xs[i]?).map (opv T) = some x := by simpa using hx
  cases hi : xs[i]? with
  | none => rw [hi] at hx; cases hx
  | some o => rw [hi] at hx hy; cases hx; cases hy; exact opv_rel hT o
theorem op_sound (hcall : CallOK P call) (R0 : Rel P B0 w0 m H w) {T : List Value} {a : Act} (hT : LRel m T a.tmps.toList) {o : Oper} {K : Value → AH → Option R} {r : R} (h : aOp P call (opv T) o.op H K = some r) :
    ∃ v H', K v H' = some r ∧ OpSim P B0 w0 o a m H w v H' := by
  obtain ⟨dst, op, ty, ps, af, g⟩ := o
  cases op
  case move x => exact ⟨_, H, h, OpSim.still R0 (by simp [execOp]) (opv_rel hT x)⟩
  case assign x => exact ⟨_, H, h, OpSim.still R0 (by simp [execOp]) (opv_rel hT x)⟩
  case pick c x y =>
    obtain ⟨v, h1, h2⟩ := bind_some h
    have hc := opv_rel hT c
    unfold pickV at h1
    split at h1
    · rename_i hb; cases h1; rw [hb] at hc; exact ⟨_, H, h2, OpSim.still R0 (by simp [execOp, hc.bool_inv, asBool]) (opv_rel hT x)⟩
    · rename_i hb; cases h1; rw [hb] at hc; exact ⟨_, H, h2, OpSim.still R0 (by simp [execOp, hc.bool_inv, asBool]) (opv_rel hT y)⟩
    · cases h1
  case alloc t =>
    obtain ⟨p, h1, h2⟩ := bind_some h
    obtain ⟨u', m', w', q1, q2, q3, q4⟩ := newV_sound R0 (t := t) (u := p.1) (H' := p.2) h1 (.tuple #[])
    exact ⟨_, _, h2, OpSim.value (by simp [execOp, q1]) q2 q3 q4⟩
  case box t x =>
    obtain ⟨p, h1, h2⟩ := bind_some h
    obtain ⟨u', m', w', q1, q2, q3, q4⟩ := box_sound (P := P) R0 (t := t) (u := p.1) (H' := p.2) (opv_rel hT x) h1
    exact ⟨_, _, h2, OpSim.value (by simp [execOp, q1]) q2 q3 q4⟩
  case build t parts =>
    obtain ⟨v, h1, h2⟩ := bind_some h
    obtain ⟨v', q1, q2⟩ := build_sound (w := w) (parts_rel hT parts.toList) h1
    have e1 : (parts.toList.map fun p => (p.1, a.eval p.2)).toArray = parts.map fun p => (p.1, a.eval p.2) := by apply Array.ext'; simp
    rw [e1] at q1
    exact ⟨_, H, h2, OpSim.still R0 (by simp [execOp, q1]) q2⟩
  case buildSlice t n parts =>
    obtain ⟨p, h1, h2⟩ := bind_some h
    obtain ⟨u', m', w', q1, q2, q3, q4⟩ := buildS_sound R0 (parts_rel hT parts.toList) (u := p.1) (H' := p.2) h1
    have e1 : (parts.toList.map fun p => (p.1, a.eval p.2)).toArray = parts.map fun p => (p.1, a.eval p.2) := by apply Array.ext'; simp
    rw [e1] at q1
    exact ⟨_, _, h2, OpSim.value (by simp [execOp, q1]) q2 q3 q4⟩
  case load t x =>
    obtain ⟨v, h1, h2⟩ := bind_some h
    obtain ⟨v', q1, q2⟩ := ld_sound R0 (opv_rel hT x) h1
    exact ⟨_, H, h2, OpSim.still R0 (by simp [execOp, q1]) q2⟩
  case store t x y =>
    obtain ⟨H', h1, h2⟩ := bind_some h
    obtain ⟨w', q1, q2, q3⟩ := st_sound R0 (opv_rel hT x) (opv_rel hT y) h1
    exact ⟨_, H', h2, OpSim.skip (by simp [execOp, q1]) q2 q3⟩
  case nilCheck x =>
    obtain ⟨v, h1, h2⟩ := bind_some h
    obtain ⟨v', q1, q2⟩ := nilChk_sound (P := P) (w := w) (dst := dst) (ty := ty) (ps := ps) (af := af) (g := g) hT h1
    exact ⟨_, H, h2, OpSim.still R0 q1 q2⟩
  case binOp op t x y yt =>
    obtain ⟨v, h1, h2⟩ := bind_some h
    obtain ⟨v', q1, q2⟩ := bin_sound (w := w) (ρ := a.eval) (x := x) (y := y) (opv_rel hT x) (opv_rel hT y) h1
    exact ⟨_, H, h2, OpSim.still R0 (by simp only [execOp, Sem.run_bind, q1, Result.andThen_ok, Sem.run_pure]) q2⟩
  case unOp op t x =>
    obtain ⟨v, h1, h2⟩ := bind_some h
    obtain ⟨v', q1, q2⟩ := un_sound (w := w) (opv_rel hT x) h1
    exact ⟨_, H, h2, OpSim.still R0 (by simp [execOp, q1]) q2⟩
  case convert s d x =>
    simp only [aOp] at h
    cases hb : isBytesToString P s d with
    | true =>
      rw [hb] at h
      obtain ⟨v, h1, h2⟩ := bind_some h
      obtain ⟨v', q1, q2⟩ := cvS_sound R0 (opv_rel hT x) h1
      exact ⟨_, H, h2, OpSim.still R0 (by simp [execOp, q1]) q2⟩
    | false =>
      rw [hb] at h
      obtain ⟨v, h1, h2⟩ := bind_some h
      obtain ⟨v', q1, q2⟩ := cv_sound (w := w) (opv_rel hT x) h1
      exact ⟨_, H, h2, OpSim.still R0 (by simp [execOp, q1]) q2⟩
  case makeFunc fn first captured =>
    cases fn <;> first
      | cases h; done
      | (refine ⟨_, H, h, OpSim.still R0 (by simp [execOp, Instr.makeFunc]; rfl) ?_⟩
         exact .func _ _ _ _ _ (LRel.arr hT).1 (LRel.arr hT).2 (LRel.arr hT).1 (LRel.arr hT).2)
  case makeSlice t l c =>
    obtain ⟨p, h1, h2⟩ := bind_some h
    obtain ⟨u', m', w', q1, q2, q3, q4⟩ := mkS_sound R0 (opv_rel hT l) (opv_rel hT c) (u := p.1) (H' := p.2) h1
    exact ⟨_, _, h2, OpSim.value (by simp [execOp, q1]) q2 q3 q4⟩
  case slice t x lo hi mx =>
    cases mx with
    | some mx =>
      obtain ⟨v, h1, h2⟩ := bind_some h
      obtain ⟨v', q1, q2⟩ := slc3_sound (w := w) (opv_rel hT x) (opt_rel hT lo) (opt_rel hT hi) (opv_rel hT mx) h1
      exact ⟨_, H, h2, OpSim.still R0 (by simp [execOp, q1]) q2⟩
    | none =>
      obtain ⟨v, h1, h2⟩ := bind_some h
      obtain ⟨v', q1, q2⟩ := slc_sound (w := w) (opv_rel hT x) (opt_rel hT lo) (opt_rel hT hi) h1
      exact ⟨_, H, h2, OpSim.still R0 (by simp [execOp, q1]) q2⟩
  case fieldAddr s x i =>
    obtain ⟨v, h1, h2⟩ := bind_some h
    obtain ⟨v', q1, q2⟩ := fldA_sound R0 (opv_rel hT x) h1
    exact ⟨_, H, h2, OpSim.still R0 (by simp [execOp, q1]) q2⟩
  case field s x i =>
    obtain ⟨v, h1, h2⟩ := bind_some h
    obtain ⟨v', q1, q2⟩ := fld_sound (w := w) (opv_rel hT x) h1
    exact ⟨_, H, h2, OpSim.still R0 (by simp [execOp, q1]) q2⟩
  case indexAddr t x i =>
    obtain ⟨v, h1, h2⟩ := bind_some h
    obtain ⟨v', q1, q2⟩ := ixA_sound (w := w) (opv_rel hT x) (opv_rel hT i) h1
    exact ⟨_, H, h2, OpSim.still R0 (by simp [execOp, q1]) q2⟩
  case index t x i =>
    obtain ⟨v, h1, h2⟩ := bind_some h
    obtain ⟨v', q1, q2⟩ := ix_sound (w := w) (opv_rel hT x) (opv_rel hT i) h1
    exact ⟨_, H, h2, OpSim.still R0 (by simp [execOp, q1]) q2⟩
  case extract t i =>
    obtain ⟨v, h1, h2⟩ := bind_some h
    obtain ⟨v', q1, q2⟩ := ext_sound (P := P) (w := w) (opv_rel hT t) h1
    exact ⟨_, H, h2, OpSim.still R0 (by simp [execOp, q1]) q2⟩
  case call c => exact call_sound hcall R0 hT h
  all_goals cases h
end
end Go.AM
set_option linter.unusedVariables false
set_option linter.unusedSimpArgs false
namespace Go.AM
open Go.RowKit

def exOf : EX → Exit
  | .normal => .normal
  | .exit id => .exit id
  | .ret => .ret
/-- What is so behind a piece of code. -/
structure After (P : Program) (B0 : Nat) (w0 : World) (m : Mp) (H : AH) (w : World) (T' : List Value) (H' : AH) (m' : Mp) (a' : Act) (w' : World) : Prop where
  ext : Ext m H w m' H' w'
  rel : Rel P B0 w0 m' H' w'
  tmps : LRel m' T' a'.tmps.toList
  defers : a'.defers = []
def CodeSim (P : Program) (c : Code) (T : List Value) (H : AH) (e : EX) (T' : List Value) (H' : AH) : Prop :=
  ∀ (B0 : Nat) (w0 : World) (m : Mp) (a : Act) (w : World) (Q : Exit → Act → World → Prop), Rel P B0 w0 m H w → LRel m T a.tmps.toList → a.defers = [] → (∀ m' a' w', After P B0 w0 m H w T' H' m' a' w' → Q (exOf e) a' w') → c.wp P Q a w

section
variable {P : Program} {call : CallF}

theorem put_rel {m : Mp} {T : List Value} {a : Act} (hT : LRel m T a.tmps.toList) (dst : Option Tmp) {v v' : Value} (hv : VRel m v v') : LRel m (putT T dst v) (a.put dst v').tmps.toList := by
  cases dst with
  | none => exact hT
  | some d =>
    simp only [putT, Act.put, Array.toList_setIfInBounds]
    exact hT.set d hv
theorem put_defers (a : Act) (dst : Option Tmp) (v : Value) : (a.put dst v).defers = a.defers := by cases dst <;> rfl
theorem aCall_res {R : Type} (ρ : Operand → Value) (c : Call) (H : AH) (K : Value → AH → Option R) : aCall P call ρ c H K = (aCall P call ρ c H fun v H' => some (v, H')).bind fun p => K p.1 p.2 := by
  unfold aCall
  split
  · simp [Option.bind_assoc]
  · split <;> simp [Option.bind_assoc]
  · split <;> simp [Option.bind_assoc]
  · split <;> simp [Option.bind_assoc]
  · simp [Option.bind_assoc]
  · simp [Option.bind_assoc]
  · rfl
theorem aOp_res {R : Type} (ρ : Operand → Value) (op : Op) (H : AH) (K : Value → AH → Option R) : aOp P call ρ op H K = (aRes P call ρ op H).bind fun p => K p.1 p.2 := by
  unfold aRes
  cases op
  case call c => simp only [aOp]; exact aCall_res ρ c H K
  case convert s d x =>
    simp only [aOp]
    cases isBytesToString P s d <;> simp [Option.bind_assoc]
  case makeFunc fn first captured => cases fn <;> simp [aOp]
  case slice t x lo hi mx => cases mx <;> simp [aOp, Option.bind_assoc]
  all_goals simp [aOp, Option.bind_assoc]
theorem res_sound (hcall : CallOK P call) {T : List Value} {H : AH} {o : Oper} {v : Value} {H' : AH} (h : aRes P call (opv T) o.op H = some (v, H')) {B0 : Nat} {w0 : World} {m : Mp} {a : Act} {w : World} (R0 : Rel P B0 w0 m H w) (hT : LRel m T a.tmps.toList) :
    OpSim P B0 w0 o a m H w v H' := by
  obtain ⟨v1, H1, h1, h2⟩ := op_sound hcall R0 hT (K := fun v H' => some (v, H')) h
  cases h1
  exact h2
/-- A guard, by what the evaluator knows. -/
def Off (u : Value) (want : Bool) : Prop := (∃ b, u = .bool b ∧ b ≠ want) ∨ ∃ vs : Array Value, u = .tuple vs ∧ vs.size = 0
theorem gOp_inv {u : Value} {want : Bool} {x : Option (Value × AH)} {H : AH} {p : Value × AH} (h : gOp u want x H = some p) : (u = .bool want ∧ x = some p) ∨ (Off u want ∧ p = (undef, H)) := by
  unfold gOp at h
  split at h
  · rename_i b
    split at h
    · rename_i hb; subst hb; exact .inl ⟨rfl, h⟩
    · rename_i hb; cases h; exact .inr ⟨.inl ⟨b, rfl, hb⟩, rfl⟩
  · rename_i vs
    cases hs : vs.size == 0 with
    | true => rw [hs] at h; cases h; exact .inr ⟨.inr ⟨vs, rfl, by simpa using hs⟩, rfl⟩
    | false => rw [hs] at h; cases h
  · cases h
theorem Off.not {u : Value} {want : Bool} (h : Off u want) : u ≠ .bool want := by
  rintro rfl
  rcases h with ⟨b, hb, hne⟩ | ⟨vs, hv, _⟩
  · cases hb; exact hne rfl
  · cases hv
theorem yield_rel {ops : Array Oper} {m : Mp} {T : List Value} {a : Act} (hT : LRel m T a.tmps.toList) (j : Nat) : (∀ b, yieldV ops T j = .bool b → yielded ops a.tmps j = some b) ∧ (∀ vs : Array Value, yieldV ops T j = .tuple vs → yielded ops a.tmps j = none) := by
  have hu : VRel m (yieldV ops T j) (match (ops[j]?).bind (·.dst) with | some d => a.tmps.getD d undef | none => undef) := by
    unfold yieldV
    cases hd : (ops[j]?).bind (·.dst) with
    | none => exact VRel.undef _
    | some d => exact opv_rel hT (.tmp d)
  have hy : ∀ u, (match (ops[j]?).bind (·.dst) with | some d => a.tmps.getD d undef | none => undef) = u → yielded ops a.tmps j = match u with | .bool b => some b | _ => none := by
    intro u hu2
    subst hu2
    unfold yielded
    cases hd : (ops[j]?).bind (·.dst) with
    | none => simp [undef]
    | some d =>
      simp only [Option.bind_some]
      by_cases hlt : d < a.tmps.size
      · have e1 : a.tmps[d]? = some (a.tmps.getD d undef) := by simp [Array.getD, hlt]
        rw [e1]
        cases a.tmps.getD d undef <;> rfl
      · simp [Array.getD, hlt, undef]
  refine ⟨fun b hb => ?_, fun vs hv => ?_⟩
  · rw [hb] at hu
    rw [hy _ hu.bool_inv]
  · rw [hv] at hu
    obtain ⟨ys, he, _⟩ := hu.tuple_inv
    rw [hy _ he]
theorem wanted_of {ops : Array Oper} {tmps : Array Value} {o : Oper} {j : Nat} {want : Bool} (hg : o.guard = some (j, want)) {q : Option Bool} (hy : yielded ops tmps j = q) : Region.wanted o (yielded ops tmps) = (q == some want) := by
  unfold Region.wanted
  rw [hg]
  simp only [hy]
theorem After.start {P : Program} {B0 : Nat} {w0 : World} {m : Mp} {H : AH} {w : World} {T : List Value} {a : Act} (R0 : Rel P B0 w0 m H w) (hT : LRel m T a.tmps.toList) (hd : a.defers = []) : After P B0 w0 m H w T H m a w := ⟨Ext.refl _ _ _, R0, hT, hd⟩
theorem After.trans {P : Program} {B0 : Nat} {w0 : World} {m m1 m2 : Mp} {H H1 H2 : AH} {w w1 w2 : World} {T1 T2 : List Value} {a1 a2 : Act} (R0 : Rel P B0 w0 m H w) (h : Ext m H w m1 H1 w1) (k : After P B0 w0 m1 H1 w1 T2 H2 m2 a2 w2) : After P B0 w0 m H w T2 H2 m2 a2 w2 :=
  ⟨Ext.trans (fun b L hb => (R0.dom b L hb).1) h k.ext, k.rel, k.tmps, k.defers⟩
def OpsSim (P : Program) (ops : Array Oper) (idx : List Nat) (T : List Value) (H : AH) (T' : List Value) (H' : AH) : Prop :=
  ∀ (B0 : Nat) (w0 : World) (m : Mp) (a : Act) (w : World) (Q : Exit → Act → World → Prop), Rel P B0 w0 m H w → LRel m T a.tmps.toList → a.defers = [] → (∀ m' a' w', After P B0 w0 m H w T' H' m' a' w' → Q .normal a' w') → wpOps P ops Q idx a w
theorem evOps_sound (hcall : CallOK P call) (ops : Array Oper) {R : Type} {K : List Value → AH → Option R} {r : R} : ∀ (l : List Oper) (i : Nat) (T : List Value) (H : AH), (∀ j, l[j]? = ops[i + j]?) → evOps P call ops l T H K = some r →
    ∃ T' H', K T' H' = some r ∧ OpsSim P ops (List.range' i l.length) T H T' H'
  | [], i, T, H, hl, h => ⟨T, H, h, fun B0 w0 m a w Q R0 hT hd hq => hq m a w (After.start R0 hT hd)⟩
  | o :: l, i, T, H, hl, h => by
    have ho : ops[i]? = some o := by have := hl 0; simpa using this.symm
    have hl' : ∀ j, l[j]? = ops[i + 1 + j]? := fun j => by have := hl (j + 1); rw [show i + 1 + j = i + (j + 1) by omega]; simpa using this
    -- done
    have done : ∀ (hh : (aOp P call (opv T) o.op H fun v H' => evOps P call ops l (putT T o.dst v) H' K) = some r), ∃ T' H', K T' H' = some r ∧
        ∀ (B0 : Nat) (w0 : World) (m : Mp) (a : Act) (w : World) (Q : Exit → Act → World → Prop), Region.wanted o (yielded ops a.tmps) = true → Rel P B0 w0 m H w → LRel m T a.tmps.toList → a.defers = [] → (∀ m' a' w', After P B0 w0 m H w T' H' m' a' w' → Q .normal a' w') → wpOps P ops Q (List.range' i (o :: l).length) a w := by
      intro hh
      rw [aOp_res] at hh
      obtain ⟨⟨v, H1⟩, h1, h2⟩ := bind_some hh
      obtain ⟨T', H', h3, h4⟩ := evOps_sound hcall ops l (i + 1) _ _ hl' h2
      refine ⟨T', H', h3, fun B0 w0 m a w Q hw R0 hT hd hq => ?_⟩
      rw [List.length_cons, List.range'_succ]
      simp only [wpOps, ho]
      rw [if_pos hw]
      refine .inl (res_sound hcall h1 R0 hT _ _ fun m' v' w' E R' hv => ?_)
      exact h4 B0 w0 m' _ w' Q R' (put_rel (hT.mono E.mono) _ hv) (by rw [put_defers]; exact hd) fun m2 a2 w2 A => hq m2 a2 w2 (After.trans (T1 := T) (a1 := a) R0 E A)
    have skipped : ∀ (hh : evOps P call ops l (putT T o.dst undef) H K = some r), ∃ T' H', K T' H' = some r ∧
        ∀ (B0 : Nat) (w0 : World) (m : Mp) (a : Act) (w : World) (Q : Exit → Act → World → Prop), Region.wanted o (yielded ops a.tmps) = false → Rel P B0 w0 m H w → LRel m T a.tmps.toList → a.defers = [] → (∀ m' a' w', After P B0 w0 m H w T' H' m' a' w' → Q .normal a' w') → wpOps P ops Q (List.range' i (o :: l).length) a w := by
      intro hh
      obtain ⟨T', H', h3, h4⟩ := evOps_sound hcall ops l (i + 1) _ _ hl' hh
      refine ⟨T', H', h3, fun B0 w0 m a w Q hw R0 hT hd hq => ?_⟩
      rw [List.length_cons, List.range'_succ]
      simp only [wpOps, ho]
      rw [if_neg (by simp [hw])]
      exact h4 B0 w0 m _ w Q R0 (put_rel hT _ (VRel.undef _)) (by rw [put_defers]; exact hd) hq
    unfold evOps at h
    cases hg : o.guard with
    | none =>
      rw [hg] at h
      obtain ⟨T', H', h3, h4⟩ := done h
      exact ⟨T', H', h3, fun B0 w0 m a w Q R0 hT hd hq => h4 B0 w0 m a w Q (by unfold Region.wanted; rw [hg]) R0 hT hd hq⟩
    | some p =>
      obtain ⟨j, want⟩ := p
      rw [hg] at h
      obtain ⟨p, hp, h⟩ := bind_some h
      rcases gOp_inv hp with ⟨hu, h5⟩ | ⟨hu, rfl⟩
      · obtain ⟨T', H', h3, h4⟩ := done (by rw [aOp_res, h5]; exact h)
        exact ⟨T', H', h3, fun B0 w0 m a w Q R0 hT hd hq => h4 B0 w0 m a w Q (by rw [wanted_of hg ((yield_rel hT j).1 _ hu)]; simp) R0 hT hd hq⟩
      · obtain ⟨T', H', h3, h4⟩ := skipped h
        refine ⟨T', H', h3, fun B0 w0 m a w Q R0 hT hd hq => h4 B0 w0 m a w Q ?_ R0 hT hd hq⟩
        rcases hu with ⟨b, hu, hb⟩ | ⟨vs, hu, _⟩
        · rw [wanted_of hg ((yield_rel hT j).1 _ hu)]; simp [hb]
        · rw [wanted_of hg ((yield_rel hT j).2 _ hu)]; rfl

def LW (P : Program) (c : Code) (Q : Exit → Act → World → Prop) (a : Act) (w : World) : Prop :=
  ∀ (b : Frame) (k : List Item) (cs : List Frame), ∃ e a' w', Q e a' w' ∧ Arrives P (lone (b.at a (.code c :: .inLoop c :: k)) cs w) b k cs e a' w'
theorem wp_loop_of_LW {c : Code} {Q : Exit → Act → World → Prop} {a : Act} {w : World} (h : LW P c Q a w) : (Code.loop c).wp P Q a w := by
  intro b k cs
  obtain ⟨e, a', w', hq, harr⟩ := h b k cs
  exact ⟨e, a', w', hq, .of_steps (.one step_loop) harr⟩
theorem LW_unroll {c : Code} {Q : Exit → Act → World → Prop} {a : Act} {w : World} (h : c.wp P (Exit.then (LW P c Q) Q) a w) : LW P c Q a w := by
  intro b k cs
  obtain ⟨e, a₁, w₁, hq, harr⟩ := h b (.inLoop c :: k) cs
  cases e with
  | normal =>
    obtain ⟨e₂, a₂, w₂, hq₂, harr₂⟩ := hq b k cs
    exact ⟨e₂, a₂, w₂, hq₂, .of_steps (Steps.trans harr (.one step_inLoop)) harr₂⟩
  | exit id => exact ⟨_, a₁, w₁, hq, .pass (x := .inLoop c) rfl (fun _ _ => .inl (by simp)) harr⟩
  | goto l => exact ⟨_, a₁, w₁, hq, .pass (x := .inLoop c) rfl (fun _ _ => .inl (by simp)) harr⟩
  | ret => exact ⟨_, a₁, w₁, hq, .pass (x := .inLoop c) rfl (fun _ _ => .inl (by simp)) harr⟩
  | panic ch => exact ⟨_, a₁, w₁, hq, .pass (x := .inLoop c) rfl (fun _ _ => .inl (by simp)) harr⟩
  | outgrown => exact ⟨_, a₁, w₁, hq, .pass (x := .inLoop c) rfl (fun _ _ => .inl (by simp)) harr⟩
theorem maskT_rel {m : Mp} (keep : List Nat) : ∀ (T Ts : List Value) (i : Nat), LRel m T Ts → LRel m (maskT keep i T) Ts
  | [], Ts, i, h => h
  | x :: T, Ts, i, h => by
    obtain ⟨y, zs, rfl, hv, hr⟩ := h.cons_inv
    unfold maskT
    refine LRel.cons ?_ (maskT_rel keep T zs (i + 1) hr)
    cases keep.contains i
    · exact .unk _
    · exact hv
theorem cutT_rel {m : Mp} (tb : Tbl) (k : Nat) {T Ts : List Value} (h : LRel m T Ts) : LRel m (cutT tb k T) Ts := by
  unfold cutT
  split
  · exact maskT_rel _ _ _ _ h
  · exact h
theorem CodeSim.trans_cut {c d : Code} {T T1 T1' T2 : List Value} {H H1 H2 : AH} {e : EX} (hcut : ∀ (m : Mp) (Ts : List Value), LRel m T1 Ts → LRel m T1' Ts) (h : CodeSim P c T H .normal T1 H1) (k : CodeSim P d T1' H1 e T2 H2) : CodeSim P (.seq c d) T H e T2 H2 := by
  intro B0 w0 m a w Q R0 hT hd hq
  apply wp_seq
  refine h B0 w0 m a w _ R0 hT hd fun m1 a1 w1 A => ?_
  refine k B0 w0 m1 a1 w1 Q A.rel (hcut _ _ A.tmps) A.defers fun m2 a2 w2 A2 => hq m2 a2 w2 (After.trans (T1 := T1) (a1 := a1) R0 A.ext A2)
/-- A region that draws its order. -/
def DrawSim (P : Program) (ops : Array Oper) (T : List Value) (H : AH) (T' : List Value) (H' : AH) : Prop :=
  ∀ (B0 : Nat) (w0 : World) (m : Mp) (a : Act) (w : World) (Q : Exit → Act → World → Prop), Rel P B0 w0 m H w → LRel m T a.tmps.toList → a.defers = [] → (∀ m' a' w', After P B0 w0 m H w T' H' m' a' w' → Q .normal a' w') →
    wpAny P .any ops Q ops.size (Array.replicate ops.size false) a w
def DrawOK (P : Program) (call : CallF) : Prop :=
  ∀ (ops : Array Oper), regOK ops = true → ∀ (R : Type) (T : List Value) (H : AH) (K : List Value → AH → Option R) (r : R), evD P call ops (befL [] ops.toList) ops.toList 0 T H [] [] K = some r → ∃ T' H', K T' H' = some r ∧ DrawSim P ops T H T' H'
theorem evalK_sound (hcall : CallOK P call) (hdraw : DrawOK P call) (hmix : P.follows .mixedOrders = true) (n : Nat) (tb : Tbl) : ∀ (c : Code) {R : Type} (T : List Value) (H : AH) (K : EX → List Value → AH → Option R) (r : R),
    evalK P call n tb c T H K = some r → ∃ e T' H', K e T' H' = some r ∧ CodeSim P c T H e T' H' := by
  intro c
  induction c with
  | skip =>
    intro R T H K r h
    exact ⟨.normal, T, H, h, fun B0 w0 m a w Q R0 hT hd hq => wp_skip (hq m a w (After.start R0 hT hd))⟩
  | region id ops draw =>
    intro R T H K r h
    simp only [evalK] at h
    cases draw with
    | true =>
      simp only [cond_true] at h
      cases hr : regOK ops with
      | false => rw [hr] at h; cases h
      | true =>
        rw [hr] at h
        obtain ⟨T', H', h1, h2⟩ := hdraw ops hr R T H _ r h
        refine ⟨.normal, T', H', h1, fun B0 w0 m a w Q R0 hT hd hq => wp_region_any hmix ?_⟩
        exact h2 B0 w0 m a _ Q R0.drew hT hd fun m' a' w' A => hq m' a' w' ⟨Ext.trans (fun b L hb => (R0.dom b L hb).1) (Ext.refl m H w).drew A.ext, A.rel, A.tmps, A.defers⟩
    | false =>
      simp only [cond_false] at h
      obtain ⟨T', H', h1, h2⟩ := evOps_sound hcall ops ops.toList 0 T H (fun j => by simp) h
      refine ⟨.normal, T', H', h1, fun B0 w0 m a w Q R0 hT hd hq => wp_region ?_⟩
      have := h2 B0 w0 m a w Q R0 hT hd hq
      rwa [Array.length_toList, ← List.range_eq_range'] at this
  | seq x y ihx ihy =>
    intro R T H K r h
    simp only [evalK] at h
    obtain ⟨e, T1, H1, h1, h2⟩ := ihx T H _ r h
    cases e with
    | normal =>
      obtain ⟨e2, T2, H2, h3, h4⟩ := ihy _ _ _ r h1
      exact ⟨e2, T2, H2, h3, CodeSim.trans_cut (fun m Ts hh => cutT_rel tb _ hh) h2 h4⟩
    | exit id => exact ⟨.exit id, T1, H1, h1, fun B0 w0 m a w Q R0 hT hd hq => wp_seq (h2 B0 w0 m a w _ R0 hT hd fun m1 a1 w1 A => hq m1 a1 w1 A)⟩
    | ret => exact ⟨.ret, T1, H1, h1, fun B0 w0 m a w Q R0 hT hd hq => wp_seq (h2 B0 w0 m a w _ R0 hT hd fun m1 a1 w1 A => hq m1 a1 w1 A)⟩
  | cond c x y ihx ihy =>
    intro R T H K r h
    simp only [evalK] at h
    obtain ⟨b, hb, hr⟩ := aIf_inv h
    cases b with
    | true =>
      obtain ⟨e, T1, H1, h1, h2⟩ := ihx T H K r hr
      refine ⟨e, T1, H1, h1, fun B0 w0 m a w Q R0 hT hd hq => wp_cond_true ?_ (h2 B0 w0 m a w Q R0 hT hd hq)⟩
      have := opv_rel hT c
      rw [hb] at this
      exact this.bool_inv
    | false =>
      obtain ⟨e, T1, H1, h1, h2⟩ := ihy T H K r hr
      refine ⟨e, T1, H1, h1, fun B0 w0 m a w Q R0 hT hd hq => wp_cond_false ?_ (h2 B0 w0 m a w Q R0 hT hd hq)⟩
      have := opv_rel hT c
      rw [hb] at this
      exact this.bool_inv
  | block id b ih =>
    intro R T H K r h
    simp only [evalK] at h
    obtain ⟨e, T1, H1, h1, h2⟩ := ih T H _ r h
    cases e with
    | normal => exact ⟨.normal, T1, H1, h1, fun B0 w0 m a w Q R0 hT hd hq => wp_block (h2 B0 w0 m a w _ R0 hT hd fun m1 a1 w1 A => hq m1 a1 w1 A)⟩
    | ret => exact ⟨.ret, T1, H1, h1, fun B0 w0 m a w Q R0 hT hd hq => wp_block (h2 B0 w0 m a w _ R0 hT hd fun m1 a1 w1 A => hq m1 a1 w1 A)⟩
    | exit i =>
      by_cases hi : i = id
      · subst hi
        refine ⟨.normal, T1, H1, by simpa [kBlock] using h1, fun B0 w0 m a w Q R0 hT hd hq => wp_block (h2 B0 w0 m a w _ R0 hT hd fun m1 a1 w1 A => ?_)⟩
        show (if i = i then Q .normal a1 w1 else Q (.exit i) a1 w1)
        rw [if_pos rfl]
        exact hq m1 a1 w1 A
      · have hi' : (i == id) = false := by simpa using hi
        refine ⟨.exit i, T1, H1, by simpa [kBlock, hi'] using h1, fun B0 w0 m a w Q R0 hT hd hq => wp_block (h2 B0 w0 m a w _ R0 hT hd fun m1 a1 w1 A => ?_)⟩
        show (if i = id then Q .normal a1 w1 else Q (.exit i) a1 w1)
        rw [if_neg hi]
        exact hq m1 a1 w1 A
  | loop b ih =>
    intro R T H K r h
    simp only [evalK] at h
    obtain ⟨⟨e, T', H'⟩, h1, h2⟩ := bind_some h
    refine ⟨e, T', H', h2, ?_⟩
    have key : ∀ (k : Nat) (T : List Value) (H : AH), iterD (fun T H K => evalK P call n tb b T H K) (cutT tb (3 * firstId b + 1)) (cutT tb (3 * firstId b + 2)) k T H = some (e, T', H') →
        ∀ (B0 : Nat) (w0 : World) (m : Mp) (a : Act) (w : World) (Q : Exit → Act → World → Prop), Rel P B0 w0 m H w → LRel m T a.tmps.toList → a.defers = [] → (∀ m' a' w', After P B0 w0 m H w T' H' m' a' w' → Q (exOf e) a' w') → LW P b Q a w := by
      intro k
      induction k with
      | zero => intro T H hh; cases hh
      | succ k ihk =>
        intro T H hh
        simp only [iterD] at hh
        obtain ⟨e1, T1, H1, h3, h4⟩ := ih (R := Out) _ _ _ _ hh
        intro B0 w0 m a w Q R0 hT hd hq
        apply LW_unroll
        refine h4 B0 w0 m a w _ R0 hT hd fun m1 a1 w1 A => ?_
        cases e1 with
        | normal => exact ihk _ H1 h3 B0 w0 m1 a1 w1 Q A.rel (cutT_rel tb _ A.tmps) A.defers fun m2 a2 w2 A2 => hq m2 a2 w2 (After.trans (T1 := T1) (a1 := a1) R0 A.ext A2)
        | exit id => cases h3; exact hq m1 a1 w1 ⟨A.ext, A.rel, cutT_rel tb _ A.tmps, A.defers⟩
        | ret => cases h3; exact hq m1 a1 w1 ⟨A.ext, A.rel, cutT_rel tb _ A.tmps, A.defers⟩
    exact fun B0 w0 m a w Q R0 hT hd hq => wp_loop_of_LW (key n _ H h1 B0 w0 m a w Q R0 (cutT_rel tb _ hT) hd hq)
  | rangeFunc f params assign body => intro R T H K r h; cases h
  | exit id =>
    intro R T H K r h
    exact ⟨.exit id, T, H, h, fun B0 w0 m a w Q R0 hT hd hq => wp_exit (hq m a w (After.start R0 hT hd))⟩
  | scope b ih =>
    intro R T H K r h
    simp only [evalK] at h
    obtain ⟨e, T1, H1, h1, h2⟩ := ih T H K r h
    refine ⟨e, T1, H1, h1, fun B0 w0 m a w Q R0 hT hd hq => wp_scope_straight (h2 B0 w0 m a w _ R0 hT hd fun m1 a1 w1 A => ?_)⟩
    have := hq m1 a1 w1 A
    cases e <;> exact this
  | label l =>
    intro R T H K r h
    exact ⟨.normal, T, H, h, fun B0 w0 m a w Q R0 hT hd hq => wp_label (hq m a w (After.start R0 hT hd))⟩
  | goto l => intro R T H K r h; cases h
  | ret =>
    intro R T H K r h
    exact ⟨.ret, T, H, h, fun B0 w0 m a w Q R0 hT hd hq => wp_ret (hq m a w (After.start R0 hT hd))⟩
  | refuse why => intro R T H K r h; cases h
theorem resOne_sound {B0 : Nat} {w0 : World} {m : Mp} {H : AH} {w : World} (R0 : Rel P B0 w0 m H w) {T : List Value} {a : Act} (hT : LRel m T a.tmps.toList) {rv : ResultVar} {v : Value} (h : resOne P T H rv = some v) :
    ∃ v', (match rv with | .tmp t => pure (a.tmps.getD t undef) | .cell x t => do loadVar t (← asAddr (a.tmps.getD x undef)) : Sem Value).run P w = .ok v' w ∧ VRel m v v' := by
  cases rv with
  | tmp t => cases h; exact ⟨_, rfl, opv_rel hT (.tmp t)⟩
  | cell x t =>
    have hx := opv_rel hT (.tmp x)
    obtain ⟨v', h1, h2⟩ := ld_sound R0 hx h
    refine ⟨v', ?_, h2⟩
    simp only [Act.eval] at h1
    have h3 : ∀ u : Value, (Instr.loadAt t u).run P w = .ok v' w → (do loadVar t (← asAddr u) : Sem Value).run P w = .ok v' w := by
      intro u hu
      cases u with
      | pointer ad =>
        cases ad with
        | some ad => simpa [Instr.loadAt, Instr.sureAddr, asAddr] using hu
        | none => simp [Instr.loadAt, Instr.sureAddr, stuck] at hu
      | _ => simp [Instr.loadAt, Instr.sureAddr, stuck] at hu
    exact h3 _ h1
theorem resAll_sound {B0 : Nat} {w0 : World} {m : Mp} {H : AH} {w : World} (R0 : Rel P B0 w0 m H w) {T : List Value} {a : Act} (hT : LRel m T a.tmps.toList) : ∀ (rs : List ResultVar) (vs : List Value), resAll P T H rs = some vs →
    ∃ vs', (rs.mapM fun | .tmp t => pure (a.tmps.getD t undef) | .cell x t => do loadVar t (← asAddr (a.tmps.getD x undef)) : Sem (List Value)).run P w = .ok vs' w ∧ LRel m vs vs'
  | [], vs, h => by cases h; exact ⟨[], by simp, LRel.nil m⟩
  | r :: rs, vs, h => by
    unfold resAll at h
    obtain ⟨v, h1, h⟩ := bind_some h
    obtain ⟨us, h2, h⟩ := bind_some h
    cases h
    obtain ⟨v', q1, q2⟩ := resOne_sound R0 hT h1
    obtain ⟨us', q3, q4⟩ := resAll_sound R0 hT rs us h2
    exact ⟨v' :: us', by rw [List.mapM_cons]; simp only [Sem.run_bind, q1, q3, Result.andThen_ok, Sem.run_pure], LRel.cons q2 q4⟩
theorem results_sound {B0 : Nat} {w0 : World} {m : Mp} {H : AH} {w : World} (R0 : Rel P B0 w0 m H w) {T : List Value} {a : Act} (hT : LRel m T a.tmps.toList) {fn : Func} {vs : List Value} (h : resAll P T H fn.results.toList = some vs) :
    ∃ v', (results fn a.tmps).run P w = .ok v' w ∧ VRel m (oneOf vs) v' := by
  obtain ⟨vs', h1, h2⟩ := resAll_sound R0 hT _ _ h
  refine ⟨oneOf vs', ?_, ?_⟩
  · unfold results
    rw [Array.mapM_eq_mapM_toList]
    simp only [Sem.run_bind, Sem.run_map, Sem.run_pure]
    refine (congrArg (fun s : Result (List Value) => (s.andThen fun a w' => .ok a.toArray w').andThen fun a w' => .ok (if h : a.size = 1 then a[0] else .tuple a) w') h1).trans ?_
    cases vs' with
    | nil => rfl
    | cons v rest =>
      cases rest with
      | nil => rfl
      | cons u rest => simp [oneOf]
  · cases vs with
    | nil => rw [h2.nil_inv]; exact VRel.undef m
    | cons v rest =>
      obtain ⟨v', zs, rfl, hv, hr⟩ := h2.cons_inv
      cases rest with
      | nil => rw [hr.nil_inv]; exact hv
      | cons u rest =>
        obtain ⟨u', zs', rfl, hu, hr'⟩ := hr.cons_inv
        have hl := LRel.cons hv (LRel.cons hu hr')
        exact .tuple _ _ (by simpa using hl.1) fun i x y hx hy => hl.2 i x y (by simpa using hx) (by simpa using hy)
theorem LRel.of_flat_undef {m : Mp} (n : Nat) : LRel m (List.replicate n undef) (List.replicate n undef) := by
  induction n with
  | zero => exact LRel.nil m
  | succ n ih => rw [List.replicate_succ]; exact LRel.cons (VRel.undef m) ih
def GivenOK (P : Program) (gv : Given) : Prop := ∀ f g, gv f = some g → ∀ args H v H', g args H = some (v, H') → Enterable P f ∧ SimCall P f args H v H'
theorem runFn_sound (hcall : CallOK P call) (hdraw : DrawOK P call) (hmix : P.follows .mixedOrders = true) {n : Nat} {tb : Tbl} {f : FuncId} {fn : Func} (hf : P.funcs[f]? = some fn) {args : List Value} {H : AH} {v : Value} {H' : AH}
    (h : runFn P call n tb fn args H = some (v, H')) : Enterable P f ∧ SimCall P f args H v H' := by
  unfold runFn at h
  cases hb : fn.body.isSome && fn.name != "runtime.NumGoroutine" with
  | false => rw [hb] at h; cases h
  | true =>
    rw [hb] at h
    simp only [cond_true] at h
    rw [Bool.and_eq_true] at hb
    obtain ⟨hb1, hb2⟩ := hb
    refine ⟨⟨fn, hf, by simpa using hb2, hb1⟩, ?_⟩
    obtain ⟨c, hc⟩ := Option.isSome_iff_exists.1 hb1
    have hbody : bodyOf fn = c := by simp [bodyOf, hc]
    rw [hbody] at h
    obtain ⟨e, T', H1, h1, h2⟩ := evalK_sound hcall hdraw hmix n tb c _ _ _ _ h
    have hres : ∃ vs, resAll P T' H1 fn.results.toList = some vs ∧ oneOf vs = v ∧ H1 = H' := by
      cases e with
      | exit i => cases h1
      | normal => obtain ⟨vs, h3, h4⟩ := bind_some h1; cases h4; exact ⟨vs, h3, rfl, rfl⟩
      | ret => obtain ⟨vs, h3, h4⟩ := bind_some h1; cases h4; exact ⟨vs, h3, rfl, rfl⟩
    obtain ⟨vs, h3, h4, rfl⟩ := hres
    intro B0 w0 m w args' R0 hargs
    refine calls_of_wp hf hc (h2 B0 w0 m _ w _ R0 ?_ rfl fun m' a' w' A => ?_)
    · have hl : args'.toArray.size = args.length := by simp [hargs.1]
      simp only [Array.toList_append, Array.toList_replicate, args0]
      refine hargs.append ?_
      rw [hl]
      exact LRel.of_flat_undef _
    · obtain ⟨v', h5, h6⟩ := results_sound A.rel A.tmps h3
      have hpost : a'.defers = [] ∧ ∃ u, (results fn a'.tmps).run P w' = .ok u w' ∧ ∃ m' v', Ending.returned u = .returned v' ∧ VRel m' v v' ∧ Rel P B0 w0 m' H1 w' ∧ Ext m H w m' H1 w' :=
        ⟨A.defers, v', h5, m', v', rfl, by rw [← h4]; exact h6, A.rel, A.ext⟩
      cases e with
      | exit i => cases h1
      | normal => exact hpost
      | ret => exact hpost
theorem run_sound (hdraw : ∀ call, CallOK P call → DrawOK P call) (hmix : P.follows .mixedOrders = true) {tbs : FuncId → Tbl} {gv : Given} (hgv : GivenOK P gv) : ∀ k, CallOK P (run P tbs gv k)
  | 0 => fun f args H v H' h => by cases h
  | k + 1 => fun f args H v H' h => by
    unfold run at h
    split at h
    · rename_i g hg
      exact hgv f g hg args H v H' h
    · obtain ⟨fn, h1, h2⟩ := bind_some h
      have ih := run_sound (tbs := tbs) hdraw hmix hgv k
      exact runFn_sound ih (hdraw _ ih) hmix h1 h2
end
end Go.AM
set_option linter.unusedVariables false
set_option linter.unusedSimpArgs false
namespace Go.AM
open Go.RowKit

section
variable {P : Program} {call : CallF}

theorem aCall_congr {R : Type} {ρ ρ' : Operand → Value} (c : Call) (h : ∀ x ∈ c.operands, ρ x = ρ' x) (H : AH) (K : Value → AH → Option R) : aCall P call ρ c H K = aCall P call ρ' c H K := by
  have h1 : ∀ x ∈ c.args.toList, ρ x = ρ' x := fun x hx => h x (by unfold Call.operands; exact Array.mem_append.2 (.inr (by simpa using hx)))
  have hargs : c.args.toList.map ρ = c.args.toList.map ρ' := List.map_congr_left h1
  unfold aCall
  split
  · rename_i f hc
    have hf : ρ f = ρ' f := h f (by unfold Call.operands; rw [hc]; simp)
    rw [hf, hargs]
  · split
    · rename_i t u s x ht ha
      rw [h1 s (by rw [ha]; simp), h1 x (by rw [ha]; simp)]
    · rfl
  · split
    · rename_i t u s x ht ha
      rw [h1 s (by rw [ha]; simp), h1 x (by rw [ha]; simp)]
    · rfl
  · split
    · rename_i t x ht ha
      rw [h1 x (by rw [ha]; simp)]
    · rfl
  · rw [hargs]
  · rw [hargs]
  · rfl
theorem aRes_congr {ρ ρ' : Operand → Value} (op : Op) (h : ∀ x ∈ op.operands, ρ x = ρ' x) (H : AH) : aRes P call ρ op H = aRes P call ρ' op H := by
  have pairs : ∀ ps : Array (Nat × Operand), (∀ x ∈ ps.map (·.2), ρ x = ρ' x) → (ps.toList.map fun p => (p.1, ρ p.2)) = (ps.toList.map fun p => (p.1, ρ' p.2)) := fun ps hp =>
    List.map_congr_left fun p hm => by rw [hp p.2 (Array.mem_map.2 ⟨p, by simpa using hm, rfl⟩)]
  unfold aRes
  cases op <;> simp only [Op.operands] at h <;> simp only [aOp]
  case build t ps => rw [pairs ps fun x hx => h x (by simpa using hx)]
  case buildSlice t n ps => rw [pairs ps fun x hx => h x (by simpa using hx)]
  case makeFunc fn first captured =>
    cases fn <;> simp only [aOp]
    rw [List.map_congr_left (l := first.toList) fun x hx => h x (by simp at hx; simp [hx]), List.map_congr_left (l := captured.toList) fun x hx => h x (by simp at hx; simp [hx])]
  case call c => exact aCall_congr c h H _
  case slice t x lo hi mx =>
    cases mx with
    | some mx => cases lo <;> cases hi <;> simp_all [aOp]
    | none => cases lo <;> cases hi <;> simp_all [aOp]
  all_goals (first | rfl | (simp_all; done))
theorem opRead_congr {ρ ρ' : Operand → Value} (op : Op) (h : ∀ x ∈ op.operands, ρ x = ρ' x) : opRead P ρ op = opRead P ρ' op := by
  cases op <;> simp only [Op.operands] at h <;> simp only [opRead]
  case load t x => rw [h x (by simp)]
  case convert s d x => rw [h x (by simp)]
/-- What reads, reads the same where the blocks are the same. -/
theorem ld_keep {t : TypeId} {H X : AH} {a v : Value} (hk : ∀ b k, blk H b = some k → blk X b = some k) (h : ld P t H a = some v) : ld P t X a = some v := by
  unfold ld at h ⊢
  split at h
  · unfold ldA at h ⊢
    split at h
    · obtain ⟨k, h1, h2⟩ := bind_some h
      simp only [hk _ _ h1, Option.bind_some]
      exact h2
    · cases h
  · unfold ldC at h ⊢
    split at h
    · obtain ⟨k, h1, h2⟩ := bind_some h
      simp only [hk _ _ h1, Option.bind_some]
      exact h2
    · cases h
  · cases h
theorem sliceCells_keep {sz n : Nat} {H X : AH} {x : Value} {cs : List Value} (hk : ∀ b k, blk H b = some k → blk X b = some k) (h1 : sliceCells sz H x n = some cs) : sliceCells sz X x n = some cs := by
  unfold sliceCells at h1 ⊢
  split at h1
  · exact h1
  · split at h1
    · rename_i hn0; simp only [hn0, if_true]; exact h1
    · split at h1
      · obtain ⟨k, h3, h4⟩ := bind_some h1
        rename_i hn0 hle
        simp only [hn0, hle, if_true, if_false, hk _ _ h3, Option.bind_some]
        exact h4
      · cases h1
  · exact h1
  · cases h1
theorem cvS_keep {s d : TypeId} {H X : AH} {a v : Value} (hk : ∀ b k, blk H b = some k → blk X b = some k) (h : cvS P s d H a = some v) : cvS P s d X a = some v := by
  unfold cvS at h ⊢
  split at h
  · split at h
    · rename_i he
      obtain ⟨cs, h1, h2⟩ := bind_some h
      simp only [he, sliceCells_keep hk h1, Option.bind_some]
      exact h2
    · cases h
  · cases h
theorem opRead_keep {ρ : Operand → Value} {op : Op} {f : AH → Option Value} (hf : opRead P ρ op = some f) {H X : AH} {v : Value} (hk : ∀ b k, blk H b = some k → blk X b = some k) (h : f H = some v) : f X = some v := by
  unfold opRead at hf
  split at hf
  · cases hf; exact ld_keep hk h
  · rename_i s d x
    cases hb : isBytesToString P s d with
    | true => rw [hb] at hf; cases hf; exact cvS_keep hk h
    | false => rw [hb] at hf; cases hf
  · cases hf
end
end Go.AM
set_option linter.unusedVariables false
set_option linter.unusedSimpArgs false
namespace Go.AM
open Go.RowKit

section
variable {P : Program} {call : CallF}

/-- An operation that neither reads nor acts nor makes: it tells the same wherever it comes. -/
def PureAt (P : Program) (call : CallF) (ρ : Operand → Value) (op : Op) (H H' : AH) (v : Value) : Prop := H' = H ∧ ∀ X, aRes P call ρ op X = some (v, X)
theorem PureAt.one {ρ : Operand → Value} {op : Op} {H H' : AH} {v : Value} (x : Option Value) (e : ∀ X, aRes P call ρ op X = x.bind fun v => some (v, X)) (h : aRes P call ρ op H = some (v, H')) : PureAt P call ρ op H H' v := by
  rw [e] at h
  obtain ⟨u, h1, h2⟩ := bind_some h
  cases h2
  exact ⟨rfl, fun X => by rw [e, h1]; rfl⟩
theorem pure_res {ρ : Operand → Value} {op : Op} (he : isEff op = false) (hr : opRead P ρ op = none) (ha : isAlloc op = false) {H H' : AH} {v : Value} (h : aRes P call ρ op H = some (v, H')) : PureAt P call ρ op H H' v := by
  cases op
  case move x => exact .one (some (ρ x)) (fun X => rfl) h
  case assign x => exact .one (some (ρ x)) (fun X => rfl) h
  case pick c x y => exact .one _ (fun X => rfl) h
  case build t ps => exact .one _ (fun X => rfl) h
  case nilCheck x => exact .one _ (fun X => rfl) h
  case binOp op t x y yt => exact .one _ (fun X => rfl) h
  case unOp op t x => exact .one _ (fun X => rfl) h
  case fieldAddr s x i => exact .one _ (fun X => rfl) h
  case field s x i => exact .one _ (fun X => rfl) h
  case indexAddr s x i => exact .one _ (fun X => rfl) h
  case index s x i => exact .one _ (fun X => rfl) h
  case extract x i => exact .one _ (fun X => rfl) h
  case load t x => cases hr
  case alloc t => cases ha
  case box t x => cases ha
  case buildSlice t n ps => cases ha
  case makeSlice t l c => cases ha
  case store t x y => cases he
  case convert s d x =>
    cases hb : isBytesToString P s d with
    | true => simp only [opRead, hb, cond_true] at hr; cases hr
    | false => exact .one (cv P s d (ρ x)) (fun X => by unfold aRes; simp only [aOp, hb, cond_false]) h
  case makeFunc fn first captured =>
    cases fn with
    | func f => exact .one (some (.func (.func f) (first.toList.map ρ).toArray (captured.toList.map ρ).toArray)) (fun X => rfl) h
    | _ => cases h
  case slice t x lo hi mx =>
    cases mx with
    | some _ => exact .one _ (fun X => rfl) h
    | none => exact .one _ (fun X => rfl) h
  case call c =>
    obtain ⟨callee, args, tys⟩ := c
    cases callee with
    | value f => cases he
    | invoke r m => cases h
    | builtin b =>
      cases b
      case append => cases he
      case copy => cases he
      case len =>
        refine .one (match tys.toList, args.toList with | [t], [x] => lenV P t (ρ x) | _, _ => none) (fun X => ?_) h
        show (match tys.toList, args.toList with | [t], [x] => (lenV P t (ρ x)).bind fun v => some (v, X) | _, _ => none) = _
        split <;> rfl
      case min => exact .one _ (fun X => rfl) h
      case max => exact .one _ (fun X => rfl) h
      all_goals cases h
  all_goals cases h
/-- An operation that makes one block. -/
def MakesAt (P : Program) (call : CallF) (ρ : Operand → Value) (op : Op) (H H' : AH) (v : Value) : Prop := ∃ k : Blk, (k.kind = .fix ∧ (v = ptr H.length 0 ∨ ∃ a c, v = sl H.length 0 a c)) ∧ H' = H ++ [some k] ∧ ∀ X : AH, X.length = H.length → aRes P call ρ op X = some (v, X ++ [some k])
theorem MakesAt.one {ρ : Operand → Value} {op : Op} {H H' : AH} {v : Value} (x : Option (Blk × (Nat → Value))) (hx : ∀ p, x = some p → p.1.kind = .fix ∧ ∀ n, p.2 n = ptr n 0 ∨ ∃ a c, p.2 n = sl n 0 a c) (e : ∀ X, aRes P call ρ op X = x.bind fun p => some (p.2 X.length, X ++ [some p.1])) (h : aRes P call ρ op H = some (v, H')) : MakesAt P call ρ op H H' v := by
  rw [e] at h
  obtain ⟨p, h1, h2⟩ := bind_some h
  cases h2
  exact ⟨p.1, ⟨(hx p h1).1, (hx p h1).2 _⟩, rfl, fun X hX => by rw [e, h1, ← hX]; rfl⟩
theorem box_form (t : TypeId) (X : AH) (v : Value) : (box t X v).bind (fun p => some (p.1, p.2)) = (if okCells v = true then some ((⟨v.cells.toList, t, .fix⟩ : Blk), fun n => ptr n 0) else none).bind fun p => some (p.2 X.length, X ++ [some p.1]) := by
  unfold box
  split <;> rfl
theorem alloc_res {ρ : Operand → Value} {op : Op} (ha : isAlloc op = true) {H H' : AH} {v : Value} (h : aRes P call ρ op H = some (v, H')) : MakesAt P call ρ op H H' v := by
  cases op
  case alloc t =>
    refine .one ((zeroT P t).bind fun z => if okCells z = true then some ((⟨z.cells.toList, t, .fix⟩ : Blk), fun n => ptr n 0) else none) ?_ (fun X => ?_) h
    · intro p hp
      obtain ⟨z, h1, h2⟩ := bind_some hp
      split at h2
      · cases h2; exact ⟨rfl, fun n => .inl rfl⟩
      · cases h2
    · show (newV P t X).bind (fun p => some (p.1, p.2)) = _
      unfold newV
      rw [Option.bind_assoc, Option.bind_assoc]
      congr 1
      funext z
      exact box_form t X z
  case box t x =>
    refine .one (if okCells (ρ x) = true then some ((⟨(ρ x).cells.toList, t, .fix⟩ : Blk), fun n => ptr n 0) else none) ?_ (fun X => box_form t X (ρ x)) h
    intro p hp
    split at hp
    · cases hp; exact ⟨rfl, fun n => .inl rfl⟩
    · cases hp
  case buildSlice t n ps =>
    refine .one (match P.underlying t with | some (.slice e) => (zeroT P e).bind fun z => if n * szT P e ≤ 16777216 ∧ z.cells.size = szT P e then (fillB (fun i => some (i * szT P e, szT P e)) (rep z.cells.toList n) (ps.toList.map fun p => (p.1, ρ p.2))).map fun cs => ((⟨cs, e, .fix⟩ : Blk), fun q => sl q 0 n n) else none | _ => none) ?_ (fun X => ?_) h
    · intro p hp
      split at hp
      · obtain ⟨z, h1, h2⟩ := bind_some hp
        split at h2
        · cases hf : fillB (fun i => some (i * szT P _, szT P _)) (rep z.cells.toList n) (ps.toList.map fun p => (p.1, ρ p.2)) with
          | none => rw [hf] at h2; cases h2
          | some cs => rw [hf] at h2; cases h2; exact ⟨rfl, fun q => .inr ⟨_, _, rfl⟩⟩
        · cases h2
      · cases hp
    · show (buildS P t X n (ps.toList.map fun p => (p.1, ρ p.2))).bind (fun p => some (p.1, p.2)) = _
      unfold buildS
      cases P.underlying t with
      | none => rfl
      | some d =>
        cases d with
        | slice e =>
          simp only
          rw [Option.bind_assoc, Option.bind_assoc]
          congr 1
          funext z
          split
          · cases fillB (fun i => some (i * szT P e, szT P e)) (rep z.cells.toList n) (ps.toList.map fun p => (p.1, ρ p.2)) <;> rfl
          · rfl
        | _ => rfl
  case makeSlice t l c =>
    refine .one (match P.underlying t, ρ l, ρ c with | some (.slice e), .int _ n, .int _ m => (zeroT P e).bind fun z => if 0 ≤ n ∧ n ≤ m ∧ m * byT P e ≤ 281474976710656 ∧ m ≤ 9223372036854775807 ∧ z.cells.size = szT P e ∧ okCells z = true then some ((⟨rep z.cells.toList m.toNat, e, .fix⟩ : Blk), fun q => sl q 0 n.toNat m.toNat) else none | _, _, _ => none) ?_ (fun X => ?_) h
    · intro p hp
      split at hp
      · obtain ⟨z, h1, h2⟩ := bind_some hp
        split at h2
        · cases h2; exact ⟨rfl, fun q => .inr ⟨_, _, rfl⟩⟩
        · cases h2
      · cases hp
    · show (mkS P t X (ρ l) (ρ c)).bind (fun p => some (p.1, p.2)) = _
      unfold mkS
      cases P.underlying t with
      | none => rfl
      | some d =>
        cases d with
        | slice e =>
          cases ρ l with
          | int k1 n =>
            cases ρ c with
            | int k2 q =>
              simp only
              rw [Option.bind_assoc, Option.bind_assoc]
              congr 1
              funext z
              split <;> rfl
            | _ => rfl
          | _ => rfl
        | _ => rfl
  all_goals cases ha
end
end Go.AM
set_option linter.unusedVariables false
set_option linter.unusedSimpArgs false
namespace Go.AM
open Go.RowKit

section
variable {P : Program} {call : CallF}

theorem befL_take : ∀ (l : List Oper) (acc : List Nat), (befL acc l).take acc.length = acc ∧ (befL acc l).length = acc.length + l.length ∧ ∀ (j : Nat) (o : Oper), l[j]? = some o → (befL acc l)[acc.length + j]? = some (maskOf ((befL acc l).take (acc.length + j)) o)
  | [], acc => by simp [befL]
  | o :: l, acc => by
    obtain ⟨h1, h2, h3⟩ := befL_take l (acc ++ [maskOf acc o])
    simp only [befL, List.length_append, List.length_cons, List.length_nil, Nat.zero_add] at h1 h2 h3 ⊢
    have h4 : (befL (acc ++ [maskOf acc o]) l).take acc.length = acc := by
      have := congrArg (List.take acc.length) h1
      rw [List.take_take, Nat.min_eq_left (by omega), List.take_left] at this
      exact this
    refine ⟨h4, by omega, fun j p hp => ?_⟩
    cases j with
    | zero =>
      simp at hp
      subst hp
      have : (befL (acc ++ [maskOf acc o]) l)[acc.length]? = ((befL (acc ++ [maskOf acc o]) l).take (acc.length + 1))[acc.length]? := by rw [List.getElem?_take, if_pos (by omega)]
      rw [Nat.add_zero, this, h1, h4]
      simp
    | succ j =>
      have := h3 j p (by simpa using hp)
      rw [show acc.length + (j + 1) = acc.length + 1 + j by omega]
      exact this
theorem maskOf_bit {acc : List Nat} {o : Oper} {i : Nat} (h : (maskOf acc o).testBit i = true) : ∃ e ∈ o.after, Region.binds .any e = true ∧ (e.on = i ∨ (acc.getD e.on 0).testBit i = true) := by
  have key : ∀ (l : List Edge) (s : Nat), (l.foldl (fun s e => bif Region.binds .any e then s ||| (2 ^ e.on ||| acc.getD e.on 0) else s) s).testBit i = true → s.testBit i = true ∨ ∃ e ∈ l, Region.binds .any e = true ∧ (e.on = i ∨ (acc.getD e.on 0).testBit i = true) := by
    intro l
    induction l with
    | nil => intro s hs; exact .inl hs
    | cons e l ih =>
      intro s hs
      rw [List.foldl_cons] at hs
      rcases ih _ hs with h1 | ⟨e', h1, h2⟩
      · cases hb : Region.binds .any e with
        | false => rw [hb] at h1; exact .inl h1
        | true =>
          rw [hb] at h1
          simp only [cond_true, Nat.testBit_or, Bool.or_eq_true] at h1
          rcases h1 with h1 | h1 | h1
          · exact .inl h1
          · refine .inr ⟨e, by simp, hb, .inl ?_⟩
            rw [Nat.testBit_two_pow] at h1
            simpa using h1
          · exact .inr ⟨e, by simp, hb, .inr h1⟩
      · exact .inr ⟨e', by simp [h1], h2⟩
  rcases key _ _ h with h1 | ⟨e, h1, h2⟩
  · simp at h1
  · exact ⟨e, by simpa using h1, h2⟩
/-- A set of operations that holds with each what it comes behind. -/
def Down (ops : Array Oper) (D : Nat → Prop) : Prop := ∀ j o, ops[j]? = some o → D j → ∀ e ∈ o.after, Region.binds .any e = true → D e.on
theorem ordB_down {ops : Array Oper} {D : Nat → Prop} (hD : Down ops D) : ∀ (j : Nat) (o : Oper), ops[j]? = some o → (∀ e ∈ o.after, Region.binds .any e = true → D e.on) → ∀ i, ordB (befL [] ops.toList) i j = true → D i := by
  intro j
  induction j using Nat.strongRecOn with
  | _ j ih =>
    intro o ho hedges i hi
    obtain ⟨_, _, h3⟩ := befL_take ops.toList []
    have h4 := h3 j o (by simpa using ho)
    simp only [List.length_nil, Nat.zero_add] at h4
    unfold ordB at hi
    rw [List.getD_eq_getElem?_getD, h4, Option.getD_some] at hi
    obtain ⟨e, he, hb, h5⟩ := maskOf_bit hi
    have hde := hedges e he hb
    rcases h5 with h5 | h5
    · rw [← h5]; exact hde
    · rcases Nat.lt_or_ge e.on j with hlt | hge
      · rw [List.getD_eq_getElem?_getD, List.getElem?_take, if_pos hlt] at h5
        cases hoe : ops[e.on]? with
        | none =>
          exfalso
          have hlen := (befL_take ops.toList []).2.1
          have : (befL [] ops.toList)[e.on]? = none := List.getElem?_eq_none (by
            rw [hlen]
            simp
            have := Array.getElem?_eq_none_iff.1 hoe
            exact this)
          rw [this] at h5
          simp at h5
        | some oe =>
          refine ih e.on hlt oe hoe (fun e' he' hb' => hD e.on oe hoe hde e' he' hb') i ?_
          unfold ordB
          rw [List.getD_eq_getElem?_getD]
          exact h5
      · rw [List.getD_eq_getElem?_getD, List.getElem?_take, if_neg (by omega)] at h5
        simp at h5
end
end Go.AM
set_option linter.unusedVariables false
set_option linter.unusedSimpArgs false
namespace Go.AM
open Go.RowKit

section
variable {P : Program} {call : CallF}

/-- The steps from operation j0 on: slots, heap, what is passed over, what is told. -/
structure Tr (P : Program) (call : CallF) (ops : Array Oper) (bs : List Nat) (j0 : Nat) (tT : Nat → List Value) (tH : Nat → AH) (sk : Nat → Bool) (vl : Nat → Value) : Prop where
  step : ∀ j o, j0 ≤ j → ops[j]? = some o → tT (j + 1) = putT (tT j) o.dst (vl j)
  skip : ∀ j o, j0 ≤ j → ops[j]? = some o → sk j = true → (∃ g want, o.guard = some (g, want) ∧ Off (yieldV ops (tT j) g) want) ∧ vl j = undef ∧ tH (j + 1) = tH j
  go : ∀ j o, j0 ≤ j → ops[j]? = some o → sk j = false → o.guard = none ∨ ∃ g want, o.guard = some (g, want) ∧ yieldV ops (tT j) g = .bool want
  read : ∀ j o f, j0 ≤ j → ops[j]? = some o → sk j = false → opRead P (opv (tT j)) o.op = some f → f (tH j) = some (vl j) ∧ tH (j + 1) = tH j
  other : ∀ j o, j0 ≤ j → ops[j]? = some o → sk j = false → opRead P (opv (tT j)) o.op = none → aRes P call (opv (tT j)) o.op (tH j) = some (vl j, tH (j + 1))
  pastR : ∀ j o f e oe, j0 ≤ e → e < j → ops[j]? = some o → ops[e]? = some oe → sk j = false → sk e = false → isEff oe.op = true → opRead P (opv (tT j)) o.op = some f → ordB bs e j = false → f (tH e) = some (vl j)
  futR : ∀ j o f e oe, j0 ≤ j → j < e → ops[j]? = some o → ops[e]? = some oe → sk j = false → sk e = false → isEff oe.op = true → opRead P (opv (tT j)) o.op = some f → ordB bs j e = false → f (tH (e + 1)) = some (vl j)
  futA : ∀ j o e oe, j0 ≤ j → j < e → ops[j]? = some o → ops[e]? = some oe → sk j = false → sk e = false → isEff oe.op = true → opRead P (opv (tT j)) o.op = none → isAlloc o.op = true → ordB bs j e = false → blk (tH (e + 1)) (tH j).length = blk (tH (j + 1)) (tH j).length

theorem aChk_inv {R : Type} {p : Prop} {x : Option R} {r : R} (h : aChk p x = some r) : p ∧ x = some r := by
  unfold aChk at h
  split at h
  · rename_i hp; exact ⟨hp, h⟩
  · cases h
theorem chkReads_inv {R : Type} {bs : List Nat} {j : Nat} {H : AH} {x : Option R} {r : R} : ∀ (rs : List Rd), chkReads bs j H x rs = some r → x = some r ∧ ∀ rd ∈ rs, ordB bs rd.at_ j = false → rd.ok H
  | [], h => ⟨h, fun rd hr => by cases hr⟩
  | rd :: rs, h => by
    unfold chkReads at h
    cases ho : ordB bs rd.at_ j with
    | true =>
      rw [ho] at h
      obtain ⟨h1, h2⟩ := chkReads_inv rs h
      refine ⟨h1, fun rd' hr hf => ?_⟩
      cases hr with
      | head => rw [ho] at hf; cases hf
      | tail _ hr => exact h2 rd' hr hf
    | false =>
      rw [ho] at h
      obtain ⟨h0, h⟩ := aChk_inv h
      obtain ⟨h1, h2⟩ := chkReads_inv rs h
      refine ⟨h1, fun rd' hr hf => ?_⟩
      cases hr with
      | head => exact h0
      | tail _ hr => exact h2 rd' hr hf
theorem chkPast_inv {R : Type} {bs : List Nat} {j : Nat} {ok : AH → Prop} {x : Option R} {r : R} : ∀ (ps : List (Nat × AH)), chkPast bs j ok x ps = some r → x = some r ∧ ∀ p ∈ ps, ordB bs p.1 j = false → ok p.2
  | [], h => ⟨h, fun p hp => by cases hp⟩
  | p :: ps, h => by
    unfold chkPast at h
    cases ho : ordB bs p.1 j with
    | true =>
      rw [ho] at h
      obtain ⟨h1, h2⟩ := chkPast_inv ps h
      refine ⟨h1, fun p' hr hf => ?_⟩
      cases hr with
      | head => rw [ho] at hf; cases hf
      | tail _ hr => exact h2 p' hr hf
    | false =>
      rw [ho] at h
      obtain ⟨h0, h⟩ := aChk_inv h
      obtain ⟨h1, h2⟩ := chkPast_inv ps h
      refine ⟨h1, fun p' hr hf => ?_⟩
      cases hr with
      | head => exact h0
      | tail _ hr => exact h2 p' hr hf
/-- What the steps from j0 on keep of what came ahead. -/
structure TrP (P : Program) (ops : Array Oper) (bs : List Nat) (j0 : Nat) (tT : Nat → List Value) (tH : Nat → AH) (sk : Nat → Bool) (vl : Nat → Value) (past : List (Nat × AH)) (reads : List Rd) : Prop where
  past : ∀ p ∈ past, ∀ j o f, j0 ≤ j → ops[j]? = some o → sk j = false → opRead P (opv (tT j)) o.op = some f → ordB bs p.1 j = false → f p.2 = some (vl j)
  reads : ∀ rd ∈ reads, ∀ e oe, j0 ≤ e → ops[e]? = some oe → sk e = false → isEff oe.op = true → ordB bs rd.at_ e = false → rd.ok (tH (e + 1))
theorem read_not_eff {ρ : Operand → Value} {op : Op} {f : AH → Option Value} (h : opRead P ρ op = some f) : isEff op = false := by
  cases op <;> first | rfl | (simp [opRead] at h; done)
theorem alloc_not_eff {op : Op} (h : isAlloc op = true) : isEff op = false := by
  cases op <;> first | rfl | (simp [isAlloc] at h; done)
theorem tr_cons {ops : Array Oper} {bs : List Nat} {j0 : Nat} {o : Oper} (ho : ops[j0]? = some o) {T : List Value} {H H1 : AH} {v : Value} {s : Bool} {tT : Nat → List Value} {tH : Nat → AH} {sk : Nat → Bool} {vl : Nat → Value}
    (h0 : tT (j0 + 1) = putT T o.dst v) (h1 : tH (j0 + 1) = H1) (X : Tr P call ops bs (j0 + 1) tT tH sk vl)
    (hskip : s = true → (∃ g want, o.guard = some (g, want) ∧ Off (yieldV ops T g) want) ∧ v = undef ∧ H1 = H)
    (hgo : s = false → o.guard = none ∨ ∃ g want, o.guard = some (g, want) ∧ yieldV ops T g = .bool want)
    (hread : ∀ f, s = false → opRead P (opv T) o.op = some f → f H = some v ∧ H1 = H)
    (hother : s = false → opRead P (opv T) o.op = none → aRes P call (opv T) o.op H = some (v, H1))
    (hpast : s = false → isEff o.op = true → ∀ j p f, j0 + 1 ≤ j → ops[j]? = some p → sk j = false → opRead P (opv (tT j)) p.op = some f → ordB bs j0 j = false → f H = some (vl j))
    (hfutR : ∀ f, s = false → opRead P (opv T) o.op = some f → ∀ e oe, j0 + 1 ≤ e → ops[e]? = some oe → sk e = false → isEff oe.op = true → ordB bs j0 e = false → f (tH (e + 1)) = some v)
    (hfutA : s = false → opRead P (opv T) o.op = none → isAlloc o.op = true → ∀ e oe, j0 + 1 ≤ e → ops[e]? = some oe → sk e = false → isEff oe.op = true → ordB bs j0 e = false → blk (tH (e + 1)) H.length = blk H1 H.length) :
    Tr P call ops bs j0 (fun i => if i = j0 then T else tT i) (fun i => if i = j0 then H else tH i) (fun i => if i = j0 then s else sk i) (fun i => if i = j0 then v else vl i) := by
  have hne : ∀ {j}, j0 ≤ j → j ≠ j0 → j0 + 1 ≤ j := fun h1 h2 => by omega
  refine ⟨?_, ?_, ?_, ?_, ?_, ?_, ?_, ?_⟩
  · intro j p hj hp
    rw [if_neg (show j + 1 ≠ j0 by omega)]
    by_cases hjj : j = j0
    · subst hjj; rw [ho] at hp; cases hp; simp only [if_true]; exact h0
    · simp only [if_neg hjj]; exact X.step j p (hne hj hjj) hp
  · intro j p hj hp hs
    rw [if_neg (show j + 1 ≠ j0 by omega)]
    by_cases hjj : j = j0
    · subst hjj; rw [ho] at hp; cases hp; simp only [if_true] at hs ⊢; rw [h1]; exact hskip hs
    · simp only [if_neg hjj] at hs ⊢; exact X.skip j p (hne hj hjj) hp hs
  · intro j p hj hp hs
    by_cases hjj : j = j0
    · subst hjj; rw [ho] at hp; cases hp; simp only [if_true] at hs ⊢; exact hgo hs
    · simp only [if_neg hjj] at hs ⊢; exact X.go j p (hne hj hjj) hp hs
  · intro j p f hj hp hs hf
    rw [if_neg (show j + 1 ≠ j0 by omega)]
    by_cases hjj : j = j0
    · subst hjj; rw [ho] at hp; cases hp; simp only [if_true] at hs hf ⊢; rw [h1]; exact hread f hs hf
    · simp only [if_neg hjj] at hs hf ⊢; exact X.read j p f (hne hj hjj) hp hs hf
  · intro j p hj hp hs hf
    rw [if_neg (show j + 1 ≠ j0 by omega)]
    by_cases hjj : j = j0
    · subst hjj; rw [ho] at hp; cases hp; simp only [if_true] at hs hf ⊢; rw [h1]; exact hother hs hf
    · simp only [if_neg hjj] at hs hf ⊢; exact X.other j p (hne hj hjj) hp hs hf
  · intro j p f e oe he hej hp hoe hs hse hef hf hord
    rw [if_neg (show j ≠ j0 by omega)] at hs hf ⊢
    by_cases hee : e = j0
    · subst hee; rw [ho] at hoe; cases hoe; simp only [if_true] at hse ⊢; exact hpast hse hef j p f (by omega) hp hs hf hord
    · simp only [if_neg hee] at hse ⊢; exact X.pastR j p f e oe (hne he hee) hej hp hoe hs hse hef hf hord
  · intro j p f e oe hj hje hp hoe hs hse hef hf hord
    rw [if_neg (show e ≠ j0 by omega)] at hse
    rw [if_neg (show e + 1 ≠ j0 by omega)]
    by_cases hjj : j = j0
    · subst hjj; rw [ho] at hp; cases hp; simp only [if_true] at hs hf ⊢; exact hfutR f hs hf e oe (by omega) hoe hse hef hord
    · simp only [if_neg hjj] at hs hf ⊢; exact X.futR j p f e oe (hne hj hjj) hje hp hoe hs hse hef hf hord
  · intro j p e oe hj hje hp hoe hs hse hef hf ha hord
    rw [if_neg (show e ≠ j0 by omega)] at hse
    rw [if_neg (show e + 1 ≠ j0 by omega), if_neg (show j + 1 ≠ j0 by omega)]
    by_cases hjj : j = j0
    · subst hjj; rw [ho] at hp; cases hp; simp only [if_true] at hs hf ⊢; rw [h1]; exact hfutA hs hf ha e oe (by omega) hoe hse hef hord
    · simp only [if_neg hjj] at hs hf ⊢; exact X.futA j p e oe (hne hj hjj) hje hp hoe hs hse hef hf ha hord
theorem trp_cons {ops : Array Oper} {bs : List Nat} {j0 : Nat} {o : Oper} (ho : ops[j0]? = some o) {T : List Value} {H H1 : AH} {v : Value} {s : Bool} {tT : Nat → List Value} {tH : Nat → AH} {sk : Nat → Bool} {vl : Nat → Value} {past : List (Nat × AH)} {reads : List Rd}
    (h1 : tH (j0 + 1) = H1)
    (hp : ∀ p ∈ past, (∀ j o f, j0 + 1 ≤ j → ops[j]? = some o → sk j = false → opRead P (opv (tT j)) o.op = some f → ordB bs p.1 j = false → f p.2 = some (vl j)) ∧ (∀ f, s = false → opRead P (opv T) o.op = some f → ordB bs p.1 j0 = false → f p.2 = some v))
    (hr : ∀ rd ∈ reads, (∀ e oe, j0 + 1 ≤ e → ops[e]? = some oe → sk e = false → isEff oe.op = true → ordB bs rd.at_ e = false → rd.ok (tH (e + 1))) ∧ (s = false → isEff o.op = true → ordB bs rd.at_ j0 = false → rd.ok H1)) :
    TrP P ops bs j0 (fun i => if i = j0 then T else tT i) (fun i => if i = j0 then H else tH i) (fun i => if i = j0 then s else sk i) (fun i => if i = j0 then v else vl i) past reads := by
  refine ⟨fun p hpp j q f hj hq hs hf hord => ?_, fun rd hrd e oe he hoe hs hef hord => ?_⟩
  · by_cases hjj : j = j0
    · subst hjj; rw [ho] at hq; cases hq; simp only [if_true] at hs hf ⊢; exact (hp p hpp).2 f hs hf hord
    · simp only [if_neg hjj] at hs hf ⊢; exact (hp p hpp).1 j q f (by omega) hq hs hf hord
  · rw [if_neg (show e + 1 ≠ j0 by omega)]
    by_cases hee : e = j0
    · subst hee; rw [ho] at hoe; cases hoe; simp only [if_true] at hs; rw [h1]; exact (hr rd hrd).2 hs hef hord
    · simp only [if_neg hee] at hs; exact (hr rd hrd).1 e oe (by omega) hoe hs hef hord
theorem evD_inv (ops : Array Oper) (bs : List Nat) {R : Type} {K : List Value → AH → Option R} {r : R} : ∀ (l : List Oper) (j0 : Nat) (T : List Value) (H : AH) (past : List (Nat × AH)) (reads : List Rd), (∀ j, l[j]? = ops[j0 + j]?) → evD P call ops bs l j0 T H past reads K = some r →
    ∃ tT tH sk vl, tT j0 = T ∧ tH j0 = H ∧ Tr P call ops bs j0 tT tH sk vl ∧ TrP P ops bs j0 tT tH sk vl past reads ∧ K (tT (j0 + l.length)) (tH (j0 + l.length)) = some r
  | [], j0, T, H, past, reads, hl, h => by
    have none_ : ∀ j, j0 ≤ j → ops[j]? = none := fun j hj => by have := hl (j - j0); rw [show j0 + (j - j0) = j by omega] at this; rw [← this]; rfl
    have no : ∀ {j : Nat} {o : Oper}, j0 ≤ j → ops[j]? = some o → False := fun hj ho => by rw [none_ _ hj] at ho; cases ho
    exact ⟨fun _ => T, fun _ => H, fun _ => false, fun _ => undef, rfl, rfl, ⟨fun j o hj ho => (no hj ho).elim, fun j o hj ho => (no hj ho).elim, fun j o hj ho => (no hj ho).elim, fun j o f hj ho => (no hj ho).elim, fun j o hj ho => (no hj ho).elim,
      fun j o f e oe he hej ho => (no (by omega) ho).elim, fun j o f e oe hj hje ho => (no hj ho).elim, fun j o e oe hj hje ho => (no hj ho).elim⟩, ⟨fun p _ j o f hj ho => (no hj ho).elim, fun rd _ e oe he hoe => (no he hoe).elim⟩, h⟩
  | o :: l, j0, T, H, past, reads, hl, h => by
    have ho : ops[j0]? = some o := by have := hl 0; simpa using this.symm
    have hl' : ∀ j, l[j]? = ops[j0 + 1 + j]? := fun j => by have := hl (j + 1); rw [show j0 + 1 + j = j0 + (j + 1) by omega]; simpa using this
    have hlen : j0 + (o :: l).length = j0 + 1 + l.length := by simp; omega
    -- passed over
    have fin_skip : ∀ (past' : List (Nat × AH)) (reads' : List Rd), (∀ p ∈ past, p ∈ past') → (∀ rd ∈ reads, rd ∈ reads') → evD P call ops bs l (j0 + 1) (putT T o.dst undef) H past' reads' K = some r → (∃ g want, o.guard = some (g, want) ∧ Off (yieldV ops T g) want) →
        ∃ tT tH sk vl, tT j0 = T ∧ tH j0 = H ∧ Tr P call ops bs j0 tT tH sk vl ∧ TrP P ops bs j0 tT tH sk vl past reads ∧ K (tT (j0 + (o :: l).length)) (tH (j0 + (o :: l).length)) = some r := by
      intro past' reads' hp' hr' hh hg
      obtain ⟨tT, tH, sk, vl, h0, h1, X, Y, hK⟩ := evD_inv ops bs l (j0 + 1) _ _ _ _ hl' hh
      refine ⟨_, _, _, _, if_pos rfl, if_pos rfl, tr_cons (s := true) (v := undef) ho h0 h1 X (fun _ => ⟨hg, rfl, rfl⟩) (fun hx => by cases hx) (fun f hx => by cases hx) (fun hx => by cases hx) (fun hx => by cases hx) (fun f hx => by cases hx) (fun hx => by cases hx),
        trp_cons ho h1 (fun p hp => ⟨Y.past p (hp' p hp), fun f hx => by cases hx⟩) (fun rd hrd => ⟨Y.reads rd (hr' rd hrd), fun hx => by cases hx⟩), ?_⟩
      rw [hlen]
      simp only [if_neg (show j0 + 1 + l.length ≠ j0 by omega)]
      exact hK
    have fin_read : ∀ (v : Value) (ok : AH → Prop) (f : AH → Option Value), opRead P (opv T) o.op = some f → f H = some v → (∀ X, ok X → f X = some v) → (o.guard = none ∨ ∃ g want, o.guard = some (g, want) ∧ yieldV ops T g = .bool want) → evD P call ops bs l (j0 + 1) (putT T o.dst v) H past (⟨j0, ok⟩ :: reads) K = some r →
        (∀ p ∈ past, ordB bs p.1 j0 = false → f p.2 = some v) → ∃ tT tH sk vl, tT j0 = T ∧ tH j0 = H ∧ Tr P call ops bs j0 tT tH sk vl ∧ TrP P ops bs j0 tT tH sk vl past reads ∧ K (tT (j0 + (o :: l).length)) (tH (j0 + (o :: l).length)) = some r := by
      intro v ok f hf hv hok hg hh hc
      obtain ⟨tT, tH, sk, vl, h0, h1, X, Y, hK⟩ := evD_inv ops bs l (j0 + 1) _ _ _ _ hl' hh
      have hne := read_not_eff hf
      refine ⟨_, _, _, _, if_pos rfl, if_pos rfl, tr_cons (s := false) (v := v) ho h0 h1 X (fun hx => by cases hx) (fun _ => hg) (fun f' _ hf' => ?_) (fun _ hx => by rw [hf] at hx; cases hx) (fun _ hx => by rw [hne] at hx; cases hx) (fun f' _ hf' e oe he hoe hse hef hord => ?_) (fun _ hx => by rw [hf] at hx; cases hx),
        trp_cons ho h1 (fun p hp => ⟨Y.past p hp, fun f' _ hf' hord => ?_⟩) (fun rd hrd => ⟨Y.reads rd (by simp [hrd]), fun _ hx => by rw [hne] at hx; cases hx⟩), ?_⟩
      · rw [hf] at hf'; cases hf'; exact ⟨hv, rfl⟩
      · rw [hf] at hf'; cases hf'; exact hok _ (Y.reads ⟨j0, ok⟩ (by simp) e oe he hoe hse hef hord)
      · rw [hf] at hf'; cases hf'; exact hc p hp hord
      · rw [hlen]
        simp only [if_neg (show j0 + 1 + l.length ≠ j0 by omega)]
        exact hK
    have fin_eff : ∀ (v : Value) (H1 : AH), opRead P (opv T) o.op = none → aRes P call (opv T) o.op H = some (v, H1) → isEff o.op = true → (o.guard = none ∨ ∃ g want, o.guard = some (g, want) ∧ yieldV ops T g = .bool want) → evD P call ops bs l (j0 + 1) (putT T o.dst v) H1 ((j0, H) :: past) reads K = some r →
        (∀ rd ∈ reads, ordB bs rd.at_ j0 = false → rd.ok H1) → ∃ tT tH sk vl, tT j0 = T ∧ tH j0 = H ∧ Tr P call ops bs j0 tT tH sk vl ∧ TrP P ops bs j0 tT tH sk vl past reads ∧ K (tT (j0 + (o :: l).length)) (tH (j0 + (o :: l).length)) = some r := by
      intro v H1 hf hv he hg hh hc
      obtain ⟨tT, tH, sk, vl, h0, h1, X, Y, hK⟩ := evD_inv ops bs l (j0 + 1) _ _ _ _ hl' hh
      refine ⟨_, _, _, _, if_pos rfl, if_pos rfl, tr_cons (s := false) (v := v) ho h0 h1 X (fun hx => by cases hx) (fun _ => hg) (fun f' _ hf' => by rw [hf] at hf'; cases hf') (fun _ _ => hv) (fun _ _ j p f hj hp hs hf hord => Y.past (j0, H) (by simp) j p f hj hp hs hf hord) (fun f' _ hf' => by rw [hf] at hf'; cases hf') (fun _ _ hx => by rw [alloc_not_eff hx] at he; cases he),
        trp_cons ho h1 (fun p hp => ⟨Y.past p (by simp [hp]), fun f' _ hf' => by rw [hf] at hf'; cases hf'⟩) (fun rd hrd => ⟨Y.reads rd hrd, fun _ _ hord => hc rd hrd hord⟩), ?_⟩
      rw [hlen]
      simp only [if_neg (show j0 + 1 + l.length ≠ j0 by omega)]
      exact hK
    have fin_alloc : ∀ (v : Value) (H1 : AH) (ok : AH → Prop), (∀ X, ok X → blk X H.length = blk H1 H.length) → opRead P (opv T) o.op = none → aRes P call (opv T) o.op H = some (v, H1) → isEff o.op = false → (o.guard = none ∨ ∃ g want, o.guard = some (g, want) ∧ yieldV ops T g = .bool want) → evD P call ops bs l (j0 + 1) (putT T o.dst v) H1 past (⟨j0, ok⟩ :: reads) K = some r → ∃ tT tH sk vl, tT j0 = T ∧ tH j0 = H ∧ Tr P call ops bs j0 tT tH sk vl ∧ TrP P ops bs j0 tT tH sk vl past reads ∧ K (tT (j0 + (o :: l).length)) (tH (j0 + (o :: l).length)) = some r := by
      intro v H1 ok hok hf hv he hg hh
      obtain ⟨tT, tH, sk, vl, h0, h1, X, Y, hK⟩ := evD_inv ops bs l (j0 + 1) _ _ _ _ hl' hh
      refine ⟨_, _, _, _, if_pos rfl, if_pos rfl, tr_cons (s := false) (v := v) ho h0 h1 X (fun hx => by cases hx) (fun _ => hg) (fun f' _ hf' => by rw [hf] at hf'; cases hf') (fun _ _ => hv) (fun _ hx => by rw [he] at hx; cases hx) (fun f' _ hf' => by rw [hf] at hf'; cases hf') (fun _ _ _ e oe hee hoe hse hef hord => hok _ (Y.reads ⟨j0, ok⟩ (by simp) e oe hee hoe hse hef hord)),
        trp_cons ho h1 (fun p hp => ⟨Y.past p hp, fun f' _ hf' => by rw [hf] at hf'; cases hf'⟩) (fun rd hrd => ⟨Y.reads rd (by simp [hrd]), fun _ hx => by rw [he] at hx; cases hx⟩), ?_⟩
      rw [hlen]
      simp only [if_neg (show j0 + 1 + l.length ≠ j0 by omega)]
      exact hK
    have fin_pure : ∀ (v : Value) (H1 : AH), opRead P (opv T) o.op = none → aRes P call (opv T) o.op H = some (v, H1) → isEff o.op = false → isAlloc o.op = false → (o.guard = none ∨ ∃ g want, o.guard = some (g, want) ∧ yieldV ops T g = .bool want) → evD P call ops bs l (j0 + 1) (putT T o.dst v) H1 past reads K = some r → ∃ tT tH sk vl, tT j0 = T ∧ tH j0 = H ∧ Tr P call ops bs j0 tT tH sk vl ∧ TrP P ops bs j0 tT tH sk vl past reads ∧ K (tT (j0 + (o :: l).length)) (tH (j0 + (o :: l).length)) = some r := by
      intro v H1 hf hv he ha hg hh
      obtain ⟨tT, tH, sk, vl, h0, h1, X, Y, hK⟩ := evD_inv ops bs l (j0 + 1) _ _ _ _ hl' hh
      refine ⟨_, _, _, _, if_pos rfl, if_pos rfl, tr_cons (s := false) (v := v) ho h0 h1 X (fun hx => by cases hx) (fun _ => hg) (fun f' _ hf' => by rw [hf] at hf'; cases hf') (fun _ _ => hv) (fun _ hx => by rw [he] at hx; cases hx) (fun f' _ hf' => by rw [hf] at hf'; cases hf') (fun _ _ hx => by rw [ha] at hx; cases hx),
        trp_cons ho h1 (fun p hp => ⟨Y.past p hp, fun f' _ hf' => by rw [hf] at hf'; cases hf'⟩) (fun rd hrd => ⟨Y.reads rd hrd, fun _ hx => by rw [he] at hx; cases hx⟩), ?_⟩
      rw [hlen]
      simp only [if_neg (show j0 + 1 + l.length ≠ j0 by omega)]
      exact hK
    unfold evD at h
    cases hg : o.guard with
    | none =>
      rw [hg] at h
      simp only at h
      split at h
      · rename_i f hf
        obtain ⟨v, hv, hh⟩ := bind_some h
        obtain ⟨hh, hc⟩ := chkPast_inv past hh
        exact fin_read v _ f hf hv (fun X hX => hX) (.inl hg) hh hc
      · rename_i hf
        rw [aOp_res] at h
        obtain ⟨⟨v, H1⟩, hv, hh⟩ := bind_some h
        simp only at hh
        cases he : isEff o.op with
        | true =>
          rw [he] at hh
          obtain ⟨hh, hc⟩ := chkReads_inv reads hh
          exact fin_eff v H1 hf hv he (.inl hg) hh hc
        | false =>
          rw [he] at hh
          cases ha : isAlloc o.op with
          | true => rw [ha] at hh; exact fin_alloc v H1 _ (fun X hX => hX) hf hv he (.inl hg) hh
          | false => rw [ha] at hh; exact fin_pure v H1 hf hv he ha (.inl hg) hh
    | some q =>
      obtain ⟨g, want⟩ := q
      rw [hg] at h
      simp only at h
      split at h
      · rename_i f hf
        obtain ⟨p, hp, hh⟩ := bind_some h
        obtain ⟨hh, hc⟩ := chkPast_inv past hh
        rcases gOp_inv hp with ⟨hu, h5⟩ | ⟨hu, rfl⟩
        · obtain ⟨v, hv, h6⟩ := bind_some h5
          cases h6
          exact fin_read v _ f hf hv (fun X hX => hX hu) (.inr ⟨g, want, hg, hu⟩) hh (fun p hp hord => hc p hp hord hu)
        · exact fin_skip _ _ (fun p hp => hp) (fun rd hrd => by simp [hrd]) hh ⟨g, want, hg, hu⟩
      · rename_i hf
        obtain ⟨⟨v, H1⟩, hp, hh⟩ := bind_some h
        simp only at hh
        rcases gOp_inv hp with ⟨hu, h5⟩ | ⟨hu, h5⟩
        · cases he : isEff o.op with
          | true =>
            rw [he] at hh
            obtain ⟨hh, hc⟩ := chkReads_inv reads hh
            exact fin_eff v H1 hf h5 he (.inr ⟨g, want, hg, hu⟩) hh hc
          | false =>
            rw [he] at hh
            cases ha : isAlloc o.op with
            | true => rw [ha] at hh; exact fin_alloc v H1 _ (fun X hX => hX hu) hf h5 he (.inr ⟨g, want, hg, hu⟩) hh
            | false => rw [ha] at hh; exact fin_pure v H1 hf h5 he ha (.inr ⟨g, want, hg, hu⟩) hh
        · cases h5
          cases he : isEff o.op with
          | true =>
            rw [he] at hh
            obtain ⟨hh, hc⟩ := chkReads_inv reads hh
            exact fin_skip _ _ (fun p hp => by simp [hp]) (fun rd hrd => hrd) hh ⟨g, want, hg, hu⟩
          | false =>
            rw [he] at hh
            cases ha : isAlloc o.op with
            | true => rw [ha] at hh; exact fin_skip _ _ (fun p hp => hp) (fun rd hrd => by simp [hrd]) hh ⟨g, want, hg, hu⟩
            | false => rw [ha] at hh; exact fin_skip _ _ (fun p hp => hp) (fun rd hrd => hrd) hh ⟨g, want, hg, hu⟩
end
end Go.AM
set_option linter.unusedVariables false
set_option linter.unusedSimpArgs false
namespace Go.AM
open Go.RowKit

section
variable {P : Program} {call : CallF}

def cutM (m : Mp) (l : Nat) : Mp := fun b => if b < l then m b else none
theorem cutM_some {m : Mp} {l b : Nat} {L : Loc} (h : cutM m l b = some L) : b < l ∧ m b = some L := by
  unfold cutM at h
  split at h
  · rename_i hb; exact ⟨hb, h⟩
  · cases h
theorem cutM_of {m : Mp} {l b : Nat} {L : Loc} (h : b < l) (hm : m b = some L) : cutM m l b = some L := by rw [cutM, if_pos h, hm]
/-- All that a value leads to lies below l. -/
def Bel (l : Nat) (x : Value) : Prop := ∃ (mm : Mp) (y : Value), VRel mm x y ∧ ∀ b L, mm b = some L → b < l
theorem Bel.list {l : Nat} {mm : Mp} {xs ys : List Value} (h : LRel mm xs ys) (hb : ∀ b L, mm b = some L → b < l) : ∀ (i : Nat) (x : Value), xs[i]? = some x → Bel l x := by
  intro i x hx
  have hlt := (List.getElem?_eq_some_iff.1 hx).1
  have hy := List.getElem?_eq_getElem (show i < ys.length by rw [← h.1]; exact hlt)
  exact ⟨mm, _, h.2 i x _ hx hy, hb⟩
theorem VRel.cutB {m : Mp} {l : Nat} {x y : Value} (h : VRel m x y) : Bel l x → VRel (cutM m l) x y := by
  induction h with
  | unk v => intro _; exact .unk v
  | flat v hf => intro _; exact .flat v hf
  | ptr b off L hm =>
    intro hb
    obtain ⟨mm, y, hr, hl⟩ := hb
    obtain ⟨L', h1, _⟩ := hr.ptr_inv
    exact .ptr b off L (cutM_of (hl _ _ h1) hm)
  | slice b off off' len cap cap' L hm h1 h2 h3 h4 h5 h7 =>
    intro hb
    obtain ⟨mm, y, hr, hl⟩ := hb
    obtain ⟨L', _, _, h6, _⟩ := hr.slice_inv
    exact .slice b off off' len cap cap' L (cutM_of (hl _ _ h6) hm) h1 h2 h3 h4 h5 h7
  | agg xs ys hs _ ih =>
    intro hb
    obtain ⟨mm, y, hr, hl⟩ := hb
    obtain ⟨zs, rfl, hlr⟩ := hr.agg_inv
    exact .agg xs ys hs fun i x y hx hy => ih i x y hx hy (Bel.list hlr hl i x (by simpa using hx))
  | tuple xs ys hs _ ih =>
    intro hb
    obtain ⟨mm, y, hr, hl⟩ := hb
    obtain ⟨zs, rfl, hlr⟩ := hr.tuple_inv
    exact .tuple xs ys hs fun i x y hx hy => ih i x y hx hy (Bel.list hlr hl i x (by simpa using hx))
  | func f a b a' b' h1 _ h2 _ ih1 ih2 =>
    intro hb
    obtain ⟨mm, y, hr, hl⟩ := hb
    have hsp : LRel mm a.toList (match y with | .func _ u _ => u.toList | _ => []) ∧ LRel mm b.toList (match y with | .func _ _ u => u.toList | _ => []) := by
      cases hr with
      | flat v hf => simp [flat1] at hf
      | func f a b a' b' h1 h2 h3 h4 => exact ⟨⟨by simpa using h1, fun i x y hx hy => h2 i x y (by simpa using hx) (by simpa using hy)⟩, ⟨by simpa using h3, fun i x y hx hy => h4 i x y (by simpa using hx) (by simpa using hy)⟩⟩
    exact .func f a b a' b' h1 (fun i x y hx hy => ih1 i x y hx hy (Bel.list hsp.1 hl i x (by simpa using hx))) h2 (fun i x y hx hy => ih2 i x y hx hy (Bel.list hsp.2 hl i x (by simpa using hx)))
/-- What holds behind an operation whatever it comes to, holds. -/
theorem wp_const {o : Oper} {a : Act} {w : World} {C : Prop} (h : o.wp P a w (fun _ _ => C) (fun _ _ _ => C)) : C := by
  unfold Oper.wp at h
  generalize (execOp a.eval o).run P w = res at h
  cases res with
  | halt hh w' => cases hh <;> simp only [Oper.upon] at h <;> exact h
  | ok n w' =>
    cases n <;> simp only [Oper.upon] at h
    case enter f args =>
      obtain ⟨e, w'', fr, hR, _⟩ := h []
      cases e with
      | returned v => exact hR
      | panicked c => exact hR
      | outgrown => obtain ⟨_, _, hc⟩ := hR; exact hc
    case row row args =>
      obtain ⟨v, w'', hR, _⟩ := h default []
      exact hR
    all_goals exact h
theorem read_res {ρ : Operand → Value} {op : Op} {f : AH → Option Value} (hf : opRead P ρ op = some f) (H : AH) : aRes P call ρ op H = (f H).bind fun v => some (v, H) := by
  unfold opRead at hf
  split at hf
  · cases hf; rfl
  · rename_i s d x
    cases hb : isBytesToString P s d with
    | true => rw [hb] at hf; cases hf; unfold aRes; simp only [aOp, hb, cond_true]
    | false => rw [hb] at hf; cases hf
  · cases hf
section
variable {ops : Array Oper} {bs : List Nat} {tT : Nat → List Value} {tH : Nat → AH} {sk : Nat → Bool} {vl : Nat → Value}
theorem Tr.res (X : Tr P call ops bs 0 tT tH sk vl) {j : Nat} {o : Oper} (ho : ops[j]? = some o) (hs : sk j = false) : aRes P call (opv (tT j)) o.op (tH j) = some (vl j, tH (j + 1)) := by
  cases hf : opRead P (opv (tT j)) o.op with
  | none => exact X.other j o (Nat.zero_le _) ho hs hf
  | some f =>
    obtain ⟨h1, h2⟩ := X.read j o f (Nat.zero_le _) ho hs hf
    rw [read_res hf, h1, h2]
    rfl
/-- The text's own order can be walked. -/
theorem Tr.walk (hcall : CallOK P call) (X : Tr P call ops bs 0 tT tH sk vl) {B0 : Nat} {w0 : World} {m : Mp} {a : Act} {w : World} (R0 : Rel P B0 w0 m (tH 0) w) (hT : LRel m (tT 0) a.tmps.toList) :
    ∀ j, j ≤ ops.size → ∃ (m' : Mp) (a' : Act) (w' : World), Ext m (tH 0) w m' (tH j) w' ∧ Rel P B0 w0 m' (tH j) w' ∧ LRel m' (tT j) a'.tmps.toList
  | 0, _ => ⟨m, a, w, Ext.refl _ _ _, R0, hT⟩
  | j + 1, hj => by
    obtain ⟨m1, a1, w1, E1, R1, T1⟩ := Tr.walk hcall X R0 hT j (by omega)
    have ho : ops[j]? = some ops[j] := Array.getElem?_eq_getElem (by omega)
    cases hs : sk j with
    | true =>
      obtain ⟨_, h2, h3⟩ := X.skip j _ (Nat.zero_le _) ho hs
      rw [X.step j _ (Nat.zero_le _) ho, h2, h3]
      exact ⟨m1, a1.put ops[j].dst undef, w1, E1, R1, put_rel T1 _ (VRel.undef _)⟩
    | false =>
      have h1 := res_sound hcall (X.res ho hs) R1 T1
      refine wp_const (h1 (fun _ _ => _) (fun _ _ _ => _) fun m' v' w' E R' hv => ?_)
      rw [X.step j _ (Nat.zero_le _) ho]
      exact ⟨m', a1.put ops[j].dst v', w', Ext.trans (fun b L hb => (R0.dom b L hb).1) E1 E, R', put_rel (T1.mono E.mono) _ hv⟩
/-- From one step to the next. -/
theorem Tr.next (hcall : CallOK P call) (X : Tr P call ops bs 0 tT tH sk vl) {B0 : Nat} {w0 : World} {m : Mp} {a : Act} {w : World} (R0 : Rel P B0 w0 m (tH 0) w) (hT : LRel m (tT 0) a.tmps.toList) {j : Nat} (hj : j < ops.size) :
    (tH j).length ≤ (tH (j + 1)).length ∧ ∀ b k', b < (tH j).length → blk (tH (j + 1)) b = some k' → ∃ k, blk (tH j) b = some k ∧ k.kind = k'.kind := by
  obtain ⟨m1, a1, w1, E1, R1, T1⟩ := X.walk hcall R0 hT j (by omega)
  have ho : ops[j]? = some ops[j] := Array.getElem?_eq_getElem (by omega)
  cases hs : sk j with
  | true =>
    obtain ⟨_, _, h3⟩ := X.skip j _ (Nat.zero_le _) ho hs
    rw [h3]
    exact ⟨Nat.le_refl _, fun b k' _ hk => ⟨k', hk, rfl⟩⟩
  | false =>
    have h1 := res_sound hcall (X.res ho hs) R1 T1
    exact wp_const (h1 (fun _ _ => _) (fun _ _ _ => _) fun m' v' w' E R' hv => ⟨E.len, E.alive⟩)
theorem Tr.bel (hcall : CallOK P call) (X : Tr P call ops bs 0 tT tH sk vl) {B0 : Nat} {w0 : World} {m : Mp} {a : Act} {w : World} (R0 : Rel P B0 w0 m (tH 0) w) (hT : LRel m (tT 0) a.tmps.toList) {j : Nat} (hj : j ≤ ops.size) (s : Nat) (x : Value) (hx : (tT j)[s]? = some x) :
    Bel (tH j).length x := by
  obtain ⟨m1, a1, w1, E1, R1, T1⟩ := X.walk hcall R0 hT j hj
  exact Bel.list T1 (fun b L hb => (R1.dom b L hb).1) s x hx
theorem Tr.lens (hcall : CallOK P call) (X : Tr P call ops bs 0 tT tH sk vl) {B0 : Nat} {w0 : World} {m : Mp} {a : Act} {w : World} (R0 : Rel P B0 w0 m (tH 0) w) (hT : LRel m (tT 0) a.tmps.toList) (i : Nat) : ∀ d, i + d ≤ ops.size → (tH i).length ≤ (tH (i + d)).length ∧ ∀ b k', b < (tH i).length → blk (tH (i + d)) b = some k' → ∃ k, blk (tH i) b = some k ∧ k.kind = k'.kind
  | 0, _ => ⟨Nat.le_refl _, fun b k' _ hk => ⟨k', hk, rfl⟩⟩
  | d + 1, hd => by
    obtain ⟨h1, h2⟩ := Tr.lens hcall X R0 hT i d (by omega)
    obtain ⟨h3, h4⟩ := X.next hcall R0 hT (j := i + d) (by omega)
    refine ⟨Nat.le_trans h1 h3, fun b k' hb hk => ?_⟩
    obtain ⟨k1, h5, h6⟩ := h4 b k' (Nat.lt_of_lt_of_le hb h1) hk
    obtain ⟨k2, h7, h8⟩ := h2 b k1 hb h5
    exact ⟨k2, h7, h8.trans h6⟩
/-- An acting operation that is done. -/
def eE (ops : Array Oper) (sk : Nat → Bool) (j : Nat) : Bool := (ops[j]?).any (fun o => isEff o.op) && !sk j
/-- An operation that doesn't act leaves the blocks that there are; if it makes one, it is told which. -/
theorem Tr.noeff (X : Tr P call ops bs 0 tT tH sk vl) {j : Nat} (hj : j < ops.size) (he : eE ops sk j = false) : (tH (j + 1) = tH j) ∨ ∃ k : Blk, k.kind = .fix ∧ tH (j + 1) = tH j ++ [some k] := by
  have ho : ops[j]? = some ops[j] := Array.getElem?_eq_getElem (by omega)
  cases hs : sk j with
  | true => exact .inl (X.skip j _ (Nat.zero_le _) ho hs).2.2
  | false =>
    have heff : isEff ops[j].op = false := by simpa [eE, ho, hs] using he
    cases hf : opRead P (opv (tT j)) ops[j].op with
    | some f => exact .inl (X.read j _ f (Nat.zero_le _) ho hs hf).2
    | none =>
      have h1 := X.other j _ (Nat.zero_le _) ho hs hf
      cases ha : isAlloc ops[j].op with
      | true => obtain ⟨k, h2, h3, _⟩ := alloc_res ha h1; exact .inr ⟨k, h2.1, h3⟩
      | false => exact .inl (pure_res heff hf ha h1).1
theorem blk_app_old {H : AH} {b : Nat} (k : Option Blk) (h : b < H.length) : blk (H ++ [k]) b = blk H b := by
  unfold blk
  rw [List.getElem?_append_left h]
theorem Tr.same (X : Tr P call ops bs 0 tT tH sk vl) (i : Nat) : ∀ d, i + d ≤ ops.size → (∀ e, i ≤ e → e < i + d → eE ops sk e = false) → (tH i).length ≤ (tH (i + d)).length ∧ ∀ b, b < (tH i).length → blk (tH (i + d)) b = blk (tH i) b
  | 0, _, _ => ⟨Nat.le_refl _, fun b _ => rfl⟩
  | d + 1, hd, he => by
    obtain ⟨h1, h2⟩ := Tr.same X i d (by omega) fun e h1 h2 => he e h1 (by omega)
    rcases X.noeff (j := i + d) (by omega) (he (i + d) (by omega) (by omega)) with h3 | ⟨k, _, h3⟩
    · rw [show i + (d + 1) = i + d + 1 by omega, h3]; exact ⟨h1, h2⟩
    · rw [show i + (d + 1) = i + d + 1 by omega, h3]
      exact ⟨by simp; omega, fun b hb => by rw [blk_app_old _ (Nat.lt_of_lt_of_le hb h1)]; exact h2 b hb⟩
end
end
end Go.AM
set_option linter.unusedVariables false
set_option linter.unusedSimpArgs false
namespace Go.AM
open Go.RowKit

theorem BRel.world {P : Program} {B0 : Nat} {m : Mp} {L : Loc} {k : Blk} {w w1 : World} (h : BRel P B0 m L k w) (e : w1.heap[L.blk]? = w.heap[L.blk]?) : BRel P B0 m L k w1 := by
  obtain ⟨h1, ⟨c, e', fr, h2, h3⟩, h4, h5⟩ := h
  exact ⟨h1, ⟨c, e', fr, by rw [e]; exact h2, h3⟩, h4, h5⟩
theorem BRel.mono {P : Program} {B0 : Nat} {m m' : Mp} {L : Loc} {k : Blk} {w : World} (hm : ∀ b L, m b = some L → m' b = some L) (h : BRel P B0 m L k w) : BRel P B0 m' L k w := by
  obtain ⟨h1, ⟨c, e', fr, h2, h3, h3'⟩, h4, h5⟩ := h
  exact ⟨h1, ⟨c, e', fr, h2, h3.mono hm, h3'⟩, h4, h5⟩
section
variable (tH : Nat → AH) (n : Nat)
open Classical in
/-- A block's content where it is made. -/
noncomputable def ini (b : Nat) : Option Blk := if h : ∃ j, j < n ∧ (tH j).length ≤ b ∧ b < (tH (j + 1)).length then blk (tH (Classical.choose h + 1)) b else none
noncomputable def kb (q b : Nat) : Option Blk := if b < (tH q).length then blk (tH q) b else ini tH n b
variable {tH n}
theorem ini_eq (hmono : ∀ i d, i + d ≤ n → (tH i).length ≤ (tH (i + d)).length) {j b : Nat} (hj : j < n) (h1 : (tH j).length ≤ b) (h2 : b < (tH (j + 1)).length) : ini tH n b = blk (tH (j + 1)) b := by
  have h : ∃ j, j < n ∧ (tH j).length ≤ b ∧ b < (tH (j + 1)).length := ⟨j, hj, h1, h2⟩
  unfold ini
  rw [dif_pos h]
  obtain ⟨g1, g2, g3⟩ := Classical.choose_spec h
  have : Classical.choose h = j := by
    rcases Nat.lt_trichotomy (Classical.choose h) j with hlt | heq | hgt
    · have := hmono (Classical.choose h + 1) (j - (Classical.choose h + 1)) (by omega)
      rw [show Classical.choose h + 1 + (j - (Classical.choose h + 1)) = j by omega] at this
      omega
    · exact heq
    · have := hmono (j + 1) (Classical.choose h - (j + 1)) (by omega)
      rw [show j + 1 + (Classical.choose h - (j + 1)) = Classical.choose h by omega] at this
      omega
  rw [this]
end
structure VR (P : Program) (B0 : Nat) (w0 : World) (tH : Nat → AH) (n q : Nat) (m : Mp) (w : World) : Prop where
  below : Below B0 w0 w
  hB : B0 ≤ w.heap.size
  dom : ∀ b L, m b = some L → b < (tH n).length ∧ L.blk < w.heap.size
  blks : ∀ b L k, m b = some L → kb tH n q b = some k → BRel P B0 (cutM m (max (tH q).length (b + 1))) L k w
  inj : ∀ b1 b2 L1 L2 k1 k2, m b1 = some L1 → m b2 = some L2 → kb tH n q b1 = some k1 → kb tH n q b2 = some k2 → k1.kind ≠ .ro → b1 ≠ b2 → L1.blk ≠ L2.blk
section
variable {P : Program} {B0 : Nat} {w0 : World} {tH : Nat → AH} {n q : Nat} {m : Mp} {w : World}
theorem kb_lt {b : Nat} (h : b < (tH q).length) : kb tH n q b = blk (tH q) b := if_pos h
theorem kb_ge {b : Nat} (h : (tH q).length ≤ b) : kb tH n q b = ini tH n b := if_neg (by omega)
theorem VR.rel (h : VR P B0 w0 tH n q m w) : Rel P B0 w0 (cutM m (tH q).length) (tH q) w := by
  refine ⟨h.below, h.hB, fun b L hm => ?_, fun b L k hm hk => ?_, fun b1 b2 L1 L2 k1 k2 hm1 hm2 hk1 hk2 hne hbb => ?_⟩
  · obtain ⟨h1, h2⟩ := cutM_some hm
    exact ⟨h1, (h.dom b L h2).2⟩
  · obtain ⟨h1, h2⟩ := cutM_some hm
    have := h.blks b L k h2 (by rw [kb_lt h1]; exact hk)
    rwa [Nat.max_eq_left (by omega)] at this
  · obtain ⟨h1, h2⟩ := cutM_some hm1
    obtain ⟨h3, h4⟩ := cutM_some hm2
    exact h.inj b1 b2 L1 L2 k1 k2 h2 h4 (by rw [kb_lt h1]; exact hk1) (by rw [kb_lt h3]; exact hk2) hne hbb
def padH (tH : Nat → AH) (n q : Nat) : AH := tH q ++ List.replicate ((tH n).length - (tH q).length) none
theorem blk_pad {b : Nat} {k : Blk} (h : blk (padH tH n q) b = some k) : b < (tH q).length ∧ blk (tH q) b = some k := by
  unfold padH at h
  rcases Nat.lt_or_ge b (tH q).length with h1 | h1
  · refine ⟨h1, ?_⟩
    unfold blk at h ⊢
    rwa [List.getElem?_append_left h1] at h
  · unfold blk at h
    rw [List.getElem?_append_right h1] at h
    rw [List.getElem?_replicate] at h
    split at h <;> cases h
theorem VR.pad (h : VR P B0 w0 tH n q m w) (hl : (tH q).length ≤ (tH n).length) : Rel P B0 w0 m (padH tH n q) w := by
  refine ⟨h.below, h.hB, fun b L hm => ?_, fun b L k hm hk => ?_, fun b1 b2 L1 L2 k1 k2 hm1 hm2 hk1 hk2 hne hbb => ?_⟩
  · have := h.dom b L hm
    refine ⟨?_, this.2⟩
    unfold padH
    rw [List.length_append, List.length_replicate]
    omega
  · obtain ⟨h1, h2⟩ := blk_pad hk
    exact (h.blks b L k hm (by rw [kb_lt h1]; exact h2)).mono fun b L hb => (cutM_some hb).2
  · obtain ⟨h1, h2⟩ := blk_pad hk1
    obtain ⟨h3, h4⟩ := blk_pad hk2
    exact h.inj b1 b2 L1 L2 k1 k2 hm1 hm2 (by rw [kb_lt h1]; exact h2) (by rw [kb_lt h3]; exact h4) hne hbb
theorem blk_dead (l b : Nat) : blk (List.replicate l none) b = none := by
  unfold blk
  rw [List.getElem?_replicate]
  split <;> rfl
theorem VR.dead (h : VR P B0 w0 tH n q m w) (l : Nat) : Rel P B0 w0 (cutM m l) (List.replicate l none) w := by
  refine ⟨h.below, h.hB, fun b L hm => ?_, fun b L k hm hk => (by rw [blk_dead] at hk; cases hk), fun b1 b2 L1 L2 k1 k2 hm1 hm2 hk1 hk2 hne hbb => (by rw [blk_dead] at hk1; cases hk1)⟩
  obtain ⟨h1, h2⟩ := cutM_some hm
  exact ⟨by rw [List.length_replicate]; exact h1, (h.dom b L h2).2⟩
/-- The world has moved on, its blocks are as they were. -/
theorem VR.still (h : VR P B0 w0 tH n q m w) {w1 : World} (hb : Below B0 w0 w1) (hs : w.heap.size ≤ w1.heap.size) (hw : ∀ B, B < w.heap.size → w1.heap[B]? = w.heap[B]?) : VR P B0 w0 tH n q m w1 :=
  ⟨hb, Nat.le_trans h.hB hs, fun b L hm => ⟨(h.dom b L hm).1, Nat.lt_of_lt_of_le (h.dom b L hm).2 hs⟩, fun b L k hm hk => (h.blks b L k hm hk).world (hw _ (h.dom b L hm).2), h.inj⟩
/-- A block more. -/
theorem VR.alloc (h : VR P B0 w0 tH n q m w) {w1 : World} (hb : Below B0 w0 w1) (hs : w.heap.size ≤ w1.heap.size) (hw : ∀ B, B < w.heap.size → w1.heap[B]? = w.heap[B]?) {l : Nat} {L : Loc} {k : Blk} (hl : l < (tH n).length) (hm : m l = none) (hk : kb tH n q l = some k)
    (hL : w.heap.size ≤ L.blk) (hL1 : L.blk < w1.heap.size) (hB : BRel P B0 (cutM (upd m l L) (l + 1)) L k w1) : VR P B0 w0 tH n q (upd m l L) w1 := by
  have hmono : ∀ b L', m b = some L' → upd m l L b = some L' := fun b L' h1 => by
    unfold upd
    split
    · rename_i he; subst he; rw [hm] at h1; cases h1
    · exact h1
  have old : ∀ b2 L2, upd m l L b2 = some L2 → (b2 = l ∧ L2 = L) ∨ (b2 ≠ l ∧ m b2 = some L2) := by
    intro b2 L2 h2
    unfold upd at h2
    split at h2
    · rename_i hb; cases h2; exact .inl ⟨hb, rfl⟩
    · rename_i hb; exact .inr ⟨hb, h2⟩
  have h1 := h.still hb hs hw
  refine ⟨hb, h1.hB, fun b L' hb' => ?_, fun b L' k' hb' hk' => ?_, fun b1 b2 L1 L2 k1 k2 hm1 hm2 hk1 hk2 hne hbb => ?_⟩
  · rcases old b L' hb' with ⟨rfl, rfl⟩ | ⟨_, h2⟩
    · exact ⟨hl, hL1⟩
    · exact h1.dom b L' h2
  · rcases old b L' hb' with ⟨rfl, rfl⟩ | ⟨_, h2⟩
    · rw [hk] at hk'
      cases hk'
      exact hB.mono fun b' L'' h3 => by obtain ⟨h4, h5⟩ := cutM_some h3; exact cutM_of (by omega) h5
    · exact (h1.blks b L' k' h2 hk').mono fun b' L'' h3 => by obtain ⟨h4, h5⟩ := cutM_some h3; exact cutM_of h4 (hmono _ _ h5)
  · rcases old b1 L1 hm1 with ⟨rfl, rfl⟩ | ⟨_, h2⟩
    · rcases old b2 L2 hm2 with ⟨rfl, rfl⟩ | ⟨_, h3⟩
      · exact (hbb rfl).elim
      · have := (h.dom b2 L2 h3).2; omega
    · rcases old b2 L2 hm2 with ⟨rfl, rfl⟩ | ⟨_, h3⟩
      · have := (h.dom b1 L1 h2).2; omega
      · exact h.inj b1 b2 L1 L2 k1 k2 h2 h3 hk1 hk2 hne hbb
/-- What acts is done. -/
def mrg (m1 m : Mp) (l1 : Nat) : Mp := fun b => if b < l1 then m1 b else m b
theorem VR.eff (h : VR P B0 w0 tH n q m w) {q' : Nat} {m1 : Mp} {w1 : World} (hq : q < q') (hq' : q' ≤ n) (hlen : (tH q).length ≤ (tH (q + 1)).length) (hsame : (tH (q + 1)).length ≤ (tH q').length ∧ ∀ b, b < (tH (q + 1)).length → blk (tH q') b = blk (tH (q + 1)) b)
    (hini : ∀ b, (tH (q + 1)).length ≤ b → b < (tH q').length → blk (tH q') b = ini tH n b) (hle : (tH q').length ≤ (tH n).length)
    (R1 : Rel P B0 w0 m1 (tH (q + 1)) w1) (E : Ext (cutM m (tH q).length) (tH q) w m1 (tH (q + 1)) w1) (hnew : ∀ b, (tH q).length ≤ b → b < (tH (q + 1)).length → m b = none) :
    VR P B0 w0 tH n q' (mrg m1 m (tH (q + 1)).length) w1 ∧ (∀ b L, m b = some L → mrg m1 m (tH (q + 1)).length b = some L) := by
  have hmono : ∀ b L, m b = some L → mrg m1 m (tH (q + 1)).length b = some L := by
    intro b L hb
    unfold mrg
    split
    · rename_i hlt
      rcases Nat.lt_or_ge b (tH q).length with h1 | h1
      · exact E.mono b L (cutM_of h1 hb)
      · rw [hnew b h1 hlt] at hb; cases hb
    · exact hb
  have hmono1 : ∀ b L, m1 b = some L → mrg m1 m (tH (q + 1)).length b = some L := by
    intro b L hb
    unfold mrg
    rw [if_pos (R1.dom b L hb).1]
    exact hb
  have old : ∀ b L, mrg m1 m (tH (q + 1)).length b = some L → (b < (tH (q + 1)).length ∧ m1 b = some L) ∨ ((tH (q + 1)).length ≤ b ∧ m b = some L) := by
    intro b L hb
    unfold mrg at hb
    split at hb
    · rename_i h1; exact .inl ⟨h1, hb⟩
    · rename_i h1; exact .inr ⟨by omega, hb⟩
  -- what lies beyond is as it was
  have kbeyond : ∀ b, (tH (q + 1)).length ≤ b → kb tH n q' b = kb tH n q b := by
    intro b hb
    rw [kb_ge (q := q) (by omega)]
    rcases Nat.lt_or_ge b (tH q').length with h1 | h1
    · rw [kb_lt h1]; exact hini b hb h1
    · exact kb_ge h1
  have wbeyond : ∀ b L k, (tH (q + 1)).length ≤ b → m b = some L → kb tH n q b = some k → w1.heap[L.blk]? = w.heap[L.blk]? := by
    intro b L k hb hm hk
    refine E.frame _ (h.dom b L hm).2 fun b2 L2 k2 hm2 hk2 hne => ?_
    obtain ⟨h1, h2⟩ := cutM_some hm2
    exact h.inj b2 b L2 L k2 k h2 hm (by rw [kb_lt h1]; exact hk2) hk hne (by omega)
  -- where a block of the lesser heap may lie
  have place : ∀ b L k, m1 b = some L → blk (tH (q + 1)) b = some k → ∀ b2 L2 k2, (tH (q + 1)).length ≤ b2 → m b2 = some L2 → kb tH n q b2 = some k2 → (k.kind ≠ .ro ∨ k2.kind ≠ .ro) → L.blk ≠ L2.blk := by
    intro b L k hm hk b2 L2 k2 hb2 hm2 hk2 hor
    rcases E.new b L hm with h1 | ⟨h1, h3 | ⟨b0, L0, k0, h3, h4, h5, h6⟩⟩
    · obtain ⟨h3, h4⟩ := cutM_some h1
      obtain ⟨k', h5, h6⟩ := E.alive b k h3 hk
      rcases hor with hor | hor
      · exact h.inj b b2 L L2 k' k2 h4 hm2 (by rw [kb_lt h3]; exact h5) hk2 (by rw [h6]; exact hor) (by omega)
      · exact Ne.symm (h.inj b2 b L2 L k2 k' hm2 h4 hk2 (by rw [kb_lt h3]; exact h5) hor (by omega))
    · have := (h.dom b2 L2 hm2).2; omega
    · obtain ⟨h7, h8⟩ := cutM_some h3
      rw [← h6]
      exact h.inj b0 b2 L0 L2 k0 k2 h8 hm2 (by rw [kb_lt h7]; exact h4) hk2 h5 (by omega)
  refine ⟨⟨R1.below, R1.hB, fun b L hb => ?_, fun b L k hb hk => ?_, fun b1 b2 L1 L2 k1 k2 hm1 hm2 hk1 hk2 hne hbb => ?_⟩, hmono⟩
  · rcases old b L hb with ⟨h1, h2⟩ | ⟨h1, h2⟩
    · exact ⟨by omega, (R1.dom b L h2).2⟩
    · exact ⟨(h.dom b L h2).1, Nat.lt_of_lt_of_le (h.dom b L h2).2 E.size⟩
  · rcases old b L hb with ⟨h1, h2⟩ | ⟨h1, h2⟩
    · rw [kb_lt (by omega), hsame.2 b h1] at hk
      exact (R1.blks b L k h2 hk).mono fun b' L' h3 => cutM_of (by have := (R1.dom b' L' h3).1; omega) (hmono1 b' L' h3)
    · rw [kbeyond b h1] at hk
      refine ((h.blks b L k h2 hk).world (wbeyond b L k h1 h2 hk)).mono fun b' L' h3 => ?_
      obtain ⟨h4, h5⟩ := cutM_some h3
      exact cutM_of (by omega) (hmono b' L' h5)
  · rcases old b1 L1 hm1 with ⟨h1, h2⟩ | ⟨h1, h2⟩
    · rw [kb_lt (by omega), hsame.2 b1 h1] at hk1
      rcases old b2 L2 hm2 with ⟨h3, h4⟩ | ⟨h3, h4⟩
      · rw [kb_lt (by omega), hsame.2 b2 h3] at hk2
        exact R1.inj b1 b2 L1 L2 k1 k2 h2 h4 hk1 hk2 hne hbb
      · rw [kbeyond b2 h3] at hk2
        exact place b1 L1 k1 h2 hk1 b2 L2 k2 h3 h4 hk2 (.inl hne)
    · rw [kbeyond b1 h1] at hk1
      rcases old b2 L2 hm2 with ⟨h3, h4⟩ | ⟨h3, h4⟩
      · rw [kb_lt (by omega), hsame.2 b2 h3] at hk2
        exact Ne.symm (place b2 L2 k2 h4 hk2 b1 L1 k1 h1 h2 hk1 (.inr hne))
      · rw [kbeyond b2 h3] at hk2
        exact h.inj b1 b2 L1 L2 k1 k2 h2 h4 hk1 hk2 hne hbb
end
end Go.AM
set_option linter.unusedVariables false
set_option linter.unusedSimpArgs false
namespace Go.AM
open Go.RowKit

section
variable {P : Program} {call : CallF} {ops : Array Oper}
def dstAt (ops : Array Oper) (i : Nat) : Option Tmp := (ops[i]?).bind (·.dst)
def sv (ops : Array Oper) (vl : Nat → Value) (T0 : List Value) (D : Nat → Bool) : Nat → Nat → Value
  | 0, s => T0.getD s undef
  | i + 1, s => if D i = true ∧ dstAt ops i = some s then vl i else sv ops vl T0 D i s
def svL (ops : Array Oper) (vl : Nat → Value) (T0 : List Value) (D : Nat → Bool) : List Value := (List.range T0.length).map (sv ops vl T0 D ops.size)
variable {vl : Nat → Value} {T0 : List Value}
theorem svL_length (D : Nat → Bool) : (svL ops vl T0 D).length = T0.length := by simp [svL]
theorem svL_getD (D : Nat → Bool) {s : Nat} (hs : s < T0.length) : (svL ops vl T0 D).getD s undef = sv ops vl T0 D ops.size s := by
  unfold svL
  rw [List.getD_eq_getElem?_getD, List.getElem?_map, List.getElem?_range hs]
  rfl
theorem sv_congr {D D' : Nat → Bool} {s : Nat} : ∀ i, (∀ j, j < i → dstAt ops j = some s → D j = D' j) → sv ops vl T0 D i s = sv ops vl T0 D' i s
  | 0, _ => rfl
  | i + 1, h => by
    have ih := sv_congr (D := D) (D' := D') i fun j hj => h j (by omega)
    unfold sv
    rw [ih]
    by_cases hd : dstAt ops i = some s
    · rw [h i (by omega) hd]
    · rw [if_neg (fun hh => hd hh.2), if_neg (fun hh => hd hh.2)]
theorem sv_cut {D : Nat → Bool} {s i : Nat} : ∀ d, (∀ j, i ≤ j → j < i + d → dstAt ops j = some s → D j = false) → sv ops vl T0 D (i + d) s = sv ops vl T0 D i s
  | 0, _ => rfl
  | d + 1, h => by
    have ih := sv_cut (D := D) (s := s) (i := i) d fun j h1 h2 => h j h1 (by omega)
    have e : sv ops vl T0 D (i + (d + 1)) s = if D (i + d) = true ∧ dstAt ops (i + d) = some s then vl (i + d) else sv ops vl T0 D (i + d) s := rfl
    rw [e, if_neg]
    · exact ih
    · intro hh
      have := h (i + d) (by omega) (by omega) hh.2
      rw [hh.1] at this
      cases this
theorem tT_sv {tT : Nat → List Value} (h0 : tT 0 = T0) (hstep : ∀ j o, ops[j]? = some o → tT (j + 1) = putT (tT j) o.dst (vl j)) : ∀ j, j ≤ ops.size → (tT j).length = T0.length ∧ ∀ s, s < T0.length → (tT j).getD s undef = sv ops vl T0 (fun _ => true) j s
  | 0, _ => by rw [h0]; exact ⟨rfl, fun s _ => rfl⟩
  | j + 1, hj => by
    obtain ⟨h1, h2⟩ := tT_sv h0 hstep j (by omega)
    have ho : ops[j]? = some ops[j] := Array.getElem?_eq_getElem (by omega)
    rw [hstep j _ ho]
    have hd : dstAt ops j = ops[j].dst := by simp [dstAt, ho]
    cases hdst : ops[j].dst with
    | none =>
      refine ⟨h1, fun s hs => ?_⟩
      unfold sv
      rw [if_neg (by rw [hd, hdst]; simp)]
      exact h2 s hs
    | some d =>
      refine ⟨by simp [putT, h1], fun s hs => ?_⟩
      unfold sv
      rw [hd, hdst]
      by_cases he : d = s
      · subst he
        rw [if_pos ⟨rfl, rfl⟩]
        simp only [putT]
        rw [List.getD_eq_getElem?_getD, List.getElem?_set_self (by omega)]
        rfl
      · rw [if_neg (by simp [he])]
        simp only [putT]
        rw [List.getD_eq_getElem?_getD, List.getElem?_set_ne he, ← List.getD_eq_getElem?_getD]
        exact h2 s hs
/-- What the region's own test says of two operations. -/
theorem regOK_pair (hreg : regOK ops = true) {i j : Nat} (hij : i < j) {oi oj : Oper} (hi : ops[i]? = some oi) (hj : ops[j]? = some oj) : ordB (befL [] ops.toList) i j = true ∨ ((isEff oi.op = true → isEff oj.op = true → False) ∧ oi.apart ops oj = true ∧ oj.apart ops oi = true) := by
  unfold regOK at hreg
  rw [Bool.and_eq_true] at hreg
  have h1 := List.all_eq_true.1 hreg.2 j (List.mem_range.2 (Array.getElem?_eq_some_iff.1 hj).1)
  have h2 := List.all_eq_true.1 h1 i (List.mem_range.2 hij)
  rw [Bool.or_eq_true] at h2
  rcases h2 with h2 | h2
  · exact .inl h2
  · right
    simp only [hi, hj, Option.any_some, Bool.and_eq_true, Bool.not_eq_true', Bool.and_eq_false_iff] at h2
    refine ⟨fun h3 h4 => ?_, h2.1.2, h2.2⟩
    rcases h2.1.1 with h5 | h5
    · rw [h3] at h5; cases h5
    · rw [h4] at h5; cases h5
theorem regOK_edge (hreg : regOK ops = true) {j : Nat} {o : Oper} (ho : ops[j]? = some o) {e : Edge} (he : e ∈ o.after) (hb : Region.binds .any e = true) : e.on < j := by
  unfold regOK at hreg
  rw [Bool.and_eq_true] at hreg
  have h1 := List.all_eq_true.1 hreg.1 j (List.mem_range.2 (Array.getElem?_eq_some_iff.1 ho).1)
  simp only [ho, Option.any_some] at h1
  have h2 := Array.all_eq_true'.1 h1 e he
  simpa [hb] using h2
/-- The operation is ready: what it comes behind is done, it is not. -/
structure Ready (ops : Array Oper) (D : Nat → Bool) (j : Nat) (o : Oper) : Prop where
  op : ops[j]? = some o
  down : Down ops (fun i => D i = true)
  edges : ∀ e ∈ o.after, Region.binds .any e = true → D e.on = true
  not : D j = false
variable {D : Nat → Bool} {j : Nat} {o : Oper}
theorem Ready.before (h : Ready ops D j o) {i : Nat} (ho : ordB (befL [] ops.toList) i j = true) : D i = true := ordB_down h.down j o h.op h.edges i ho
theorem Ready.behind (h : Ready ops D j o) {i : Nat} {oi : Oper} (hi : ops[i]? = some oi) (ho : ordB (befL [] ops.toList) j i = true) : D i = false := by
  cases hD : D i with
  | false => rfl
  | true =>
    have := ordB_down h.down i oi hi (fun e he hb => h.down i oi hi hD e he hb) j ho
    have h2 := h.not
    rw [this] at h2
    cases h2
theorem Ready.slots (hreg : regOK ops = true) (h : Ready ops D j o) {s : Tmp} (hs : s ∈ o.looksAt ops) : sv ops vl T0 D ops.size s = sv ops vl T0 (fun _ => true) j s := by
  have hj : j < ops.size := (Array.getElem?_eq_some_iff.1 h.op).1
  have e1 : sv ops vl T0 D ops.size s = sv ops vl T0 D j s := by
    have := sv_cut (ops := ops) (vl := vl) (T0 := T0) (D := D) (s := s) (i := j) (ops.size - j) fun i h1 h2 hd => ?_
    · rwa [show j + (ops.size - j) = ops.size by omega] at this
    · by_cases hij : i = j
      · subst hij; exact h.not
      · have hi : ops[i]? = some ops[i] := Array.getElem?_eq_getElem (by omega)
        rcases regOK_pair hreg (show j < i by omega) h.op hi with h3 | ⟨_, h3, _⟩
        · exact h.behind hi h3
        · obtain ⟨_, _, h5⟩ := Oper.apart_spec h3
          exact absurd hs (h5 s (by simpa [dstAt, hi] using hd))
  rw [e1]
  refine sv_congr j fun i hij hd => ?_
  have hi : ops[i]? = some ops[i] := Array.getElem?_eq_getElem (by omega)
  rcases regOK_pair hreg hij hi h.op with h3 | ⟨_, h3, _⟩
  · exact h.before h3
  · obtain ⟨h4, _, _⟩ := Oper.apart_spec h3
    exact absurd hs (h4 s (by simpa [dstAt, hi] using hd))
theorem Ready.put (hreg : regOK ops = true) (h : Ready ops D j o) : svL ops vl T0 (fun i => if i = j then true else D i) = putT (svL ops vl T0 D) o.dst (vl j) := by
  have hj : j < ops.size := (Array.getElem?_eq_some_iff.1 h.op).1
  have hdj : dstAt ops j = o.dst := by simp [dstAt, h.op]
  apply List.ext_getElem?
  intro s
  rcases Nat.lt_or_ge s T0.length with hs | hs
  · have hl : (svL ops vl T0 (fun i => if i = j then true else D i))[s]? = some (sv ops vl T0 (fun i => if i = j then true else D i) ops.size s) := by
      unfold svL; rw [List.getElem?_map, List.getElem?_range hs]; rfl
    have hl2 : (svL ops vl T0 D)[s]? = some (sv ops vl T0 D ops.size s) := by
      unfold svL; rw [List.getElem?_map, List.getElem?_range hs]; rfl
    rw [hl]
    by_cases hd : o.dst = some s
    · rw [hd]
      simp only [putT]
      rw [List.getElem?_set_self (by rw [svL_length]; exact hs)]
      congr 1
      have := sv_cut (ops := ops) (vl := vl) (T0 := T0) (D := fun i => if i = j then true else D i) (s := s) (i := j + 1) (ops.size - (j + 1)) fun i h1 h2 hdi => ?_
      · rw [show j + 1 + (ops.size - (j + 1)) = ops.size by omega] at this
        rw [this]
        unfold sv
        rw [if_pos ⟨by simp, by rw [hdj]; exact hd⟩]
      · simp only [if_neg (show i ≠ j by omega)]
        have hi : ops[i]? = some ops[i] := Array.getElem?_eq_getElem (by omega)
        rcases regOK_pair hreg (show j < i by omega) h.op hi with h3 | ⟨_, h3, _⟩
        · exact h.behind hi h3
        · obtain ⟨_, h5, _⟩ := Oper.apart_spec h3
          exact absurd (show ops[i].dst = some s by simpa [dstAt, hi] using hdi) (h5 s hd)
    · have e1 : sv ops vl T0 (fun i => if i = j then true else D i) ops.size s = sv ops vl T0 D ops.size s := sv_congr _ fun i hi hdi => by
        have : i ≠ j := fun he => hd (by rw [← hdj, ← he]; exact hdi)
        simp only [if_neg this]
      rw [e1]
      cases hdst : o.dst with
      | none => exact hl2.symm
      | some d =>
        simp only [putT]
        rw [List.getElem?_set_ne (fun he => hd (by rw [hdst, he]))]
        exact hl2.symm
  · have hl : (svL ops vl T0 (fun i => if i = j then true else D i))[s]? = none := List.getElem?_eq_none (by rw [svL_length]; exact hs)
    rw [hl]
    cases o.dst with
    | none => exact (List.getElem?_eq_none (by simp only [putT]; rw [svL_length]; exact hs)).symm
    | some d => exact (List.getElem?_eq_none (by simp only [putT, List.length_set]; rw [svL_length]; exact hs)).symm
theorem opv_slots {T T' : List Value} (hl : T.length = T'.length) {o : Oper} (h : ∀ s ∈ o.looksAt ops, s < T.length → T.getD s undef = T'.getD s undef) : (∀ x ∈ o.op.operands, opv T x = opv T' x) ∧ ∀ g want, o.guard = some (g, want) → yieldV ops T g = yieldV ops T' g := by
  have one : ∀ s ∈ o.looksAt ops, T.getD s undef = T'.getD s undef := by
    intro s hs
    rcases Nat.lt_or_ge s T.length with h1 | h1
    · exact h s hs h1
    · rw [List.getD_eq_getElem?_getD, List.getD_eq_getElem?_getD, List.getElem?_eq_none h1, List.getElem?_eq_none (by omega)]
  refine ⟨fun x hx => ?_, fun g want hg => ?_⟩
  · cases x with
    | tmp s => exact one s (List.mem_append_left _ (List.mem_filterMap.2 ⟨.tmp s, by simpa using hx, rfl⟩))
    | _ => rfl
  · unfold yieldV
    cases hd : (ops[g]?).bind (·.dst) with
    | none => rfl
    | some s => exact one s (by simp [Oper.looksAt, hg, hd])
end
end Go.AM
set_option linter.unusedVariables false
set_option linter.unusedSimpArgs false
namespace Go.AM
open Go.RowKit

section
variable {P : Program} {call : CallF} {ops : Array Oper} {tT : Nat → List Value} {tH : Nat → AH} {sk : Nat → Bool} {vl : Nat → Value}

theorem read_sound {B0 : Nat} {w0 : World} {m : Mp} {X : AH} {w : World} (R0 : Rel P B0 w0 m X w) {T : List Value} {a : Act} (hT : LRel m T a.tmps.toList) {o : Oper} {f : AH → Option Value} (hf : opRead P (opv T) o.op = some f) {v : Value} (h : f X = some v) :
    ∃ v', (execOp a.eval o).run P w = .ok (.value v') w ∧ VRel m v v' := by
  obtain ⟨dst, op, ty, ps, af, g⟩ := o
  unfold opRead at hf
  split at hf
  · rename_i t x hop
    simp only at hop
    subst hop
    cases hf
    obtain ⟨v', q1, q2⟩ := ld_sound R0 (opv_rel hT x) h
    exact ⟨v', by simp [execOp, q1], q2⟩
  · rename_i s d x hop
    simp only at hop
    subst hop
    cases hb : isBytesToString P s d with
    | true =>
      rw [hb] at hf
      cases hf
      obtain ⟨v', q1, q2⟩ := cvS_sound R0 (opv_rel hT x) h
      exact ⟨v', by simp [execOp, q1], q2⟩
    | false => rw [hb] at hf; cases hf
  · cases hf
theorem nextE (s : Nat) : ∀ d, s + d = ops.size → ∃ q, s ≤ q ∧ q ≤ ops.size ∧ (∀ e, s ≤ e → e < q → eE ops sk e = false) ∧ (q < ops.size → eE ops sk q = true)
  | 0, h => ⟨s, Nat.le_refl _, by omega, fun e h1 h2 => by omega, fun h1 => by omega⟩
  | d + 1, h => by
    cases he : eE ops sk s with
    | true => exact ⟨s, Nat.le_refl _, by omega, fun e h1 h2 => by omega, fun _ => he⟩
    | false =>
      obtain ⟨q, h1, h2, h3, h4⟩ := nextE (s + 1) d (by omega)
      exact ⟨q, by omega, h2, fun e h5 h6 => by
        by_cases hes : e = s
        · subst hes; exact he
        · exact h3 e (by omega) h6, h4⟩
theorem eE_inv {j : Nat} (h : eE ops sk j = true) : ∃ o, ops[j]? = some o ∧ isEff o.op = true ∧ sk j = false := by
  unfold eE at h
  rw [Bool.and_eq_true] at h
  cases ho : ops[j]? with
  | none => rw [ho] at h; cases h.1
  | some o => rw [ho] at h; exact ⟨o, rfl, by simpa using h.1, by simpa using h.2⟩
theorem crossing (f : Nat → Nat) (i : Nat) (b : Nat) (h0 : f i ≤ b) : ∀ d, b < f (i + d) → ∃ j, i ≤ j ∧ j < i + d ∧ f j ≤ b ∧ b < f (j + 1)
  | 0, h => by simp at h; omega
  | d + 1, h => by
    rcases Nat.lt_or_ge b (f (i + d)) with h1 | h1
    · obtain ⟨j, h2, h3, h4⟩ := crossing f i b h0 d h1
      exact ⟨j, h2, by omega, h4⟩
    · exact ⟨i + d, by omega, by omega, h1, h⟩

structure Inv (P : Program) (ops : Array Oper) (tT : Nat → List Value) (tH : Nat → AH) (sk : Nat → Bool) (vl : Nat → Value) (B0 : Nat) (w0 : World) (m0 : Mp) (wI : World) (listed : Array Bool) (q : Nat) (m : Mp) (a : Act) (w : World) : Prop where
  lsize : listed.size = ops.size
  down : Down ops (fun i => listed.getD i false = true)
  hq : q ≤ ops.size
  hq1 : q < ops.size → eE ops sk q = true ∧ listed.getD q false = false
  hq2 : ∀ e, e < q → eE ops sk e = true → listed.getD e false = true
  slots : LRel m (svL ops vl (tT 0) (fun i => listed.getD i false)) a.tmps.toList
  defers : a.defers = []
  vr : VR P B0 w0 tH ops.size q m w
  dm : ∀ b L, m b = some L → b < (tH 0).length ∨ ∃ i, i < ops.size ∧ listed.getD i false = true ∧ (tH i).length ≤ b ∧ b < (tH (i + 1)).length
  mono0 : ∀ b L, m0 b = some L → m b = some L
  size : wI.heap.size ≤ w.heap.size
  new : ∀ b L, m b = some L → m0 b = some L ∨ ((tH 0).length ≤ b ∧ (wI.heap.size ≤ L.blk ∨ ∃ b0 L0 k0, m0 b0 = some L0 ∧ blk (tH 0) b0 = some k0 ∧ k0.kind ≠ .ro ∧ L0.blk = L.blk))
  frame : ∀ B, B < wI.heap.size → (∀ b L k, m0 b = some L → blk (tH 0) b = some k → k.kind ≠ .ro → L.blk ≠ B) → w.heap[B]? = wI.heap[B]?

/-- The lengths and kinds along the text's own order. -/
structure Along (ops : Array Oper) (tT : Nat → List Value) (tH : Nat → AH) (m0 : Mp) : Prop where
  lens : ∀ i d, i + d ≤ ops.size → (tH i).length ≤ (tH (i + d)).length
  alive : ∀ d, d ≤ ops.size → ∀ b k', b < (tH 0).length → blk (tH d) b = some k' → ∃ k, blk (tH 0) b = some k ∧ k.kind = k'.kind
  bel : ∀ (j s : Nat) (x : Value), j ≤ ops.size → (tT j)[s]? = some x → Bel (tH j).length x
  dom0 : ∀ b L, m0 b = some L → b < (tH 0).length
theorem Along.le {m0 : Mp} (A : Along ops tT tH m0) {i j : Nat} (h : i ≤ j) (hj : j ≤ ops.size) : (tH i).length ≤ (tH j).length := by
  have := A.lens i (j - i) (by omega)
  rwa [show i + (j - i) = j by omega] at this
theorem getD_set {listed : Array Bool} {j : Nat} (hj : j < listed.size) (i : Nat) : (listed.setIfInBounds j true).getD i false = if i = j then true else listed.getD i false := by
  by_cases h : i = j
  · subst h
    rw [if_pos rfl]
    simp [Array.getD, hj]
  · rw [if_neg h]
    exact getD_set_ne false (Ne.symm h)
section
variable {B0 : Nat} {w0 : World} {m0 : Mp} {wI : World} {listed : Array Bool} {q : Nat} {m : Mp} {a : Act} {w : World}
theorem Inv.rdy (I : Inv P ops tT tH sk vl B0 w0 m0 wI listed q m a w) {j : Nat} (hr : j ∈ Region.ready .any ops listed) : ∃ o, Ready ops (fun i => listed.getD i false) j o := by
  unfold Region.ready at hr
  rw [List.mem_filter] at hr
  obtain ⟨h1, h2⟩ := hr
  have hj : j < ops.size := List.mem_range.1 h1
  have ho : ops[j]? = some ops[j] := Array.getElem?_eq_getElem hj
  rw [Bool.and_eq_true, ho] at h2
  simp only [Option.map_some, Option.getD_some] at h2
  refine ⟨ops[j], ho, I.down, fun e he hb => ?_, ?_⟩
  · have := Array.all_eq_true'.1 h2.2 e he
    simpa [hb] using this
  · have hlt : j < listed.size := by rw [I.lsize]; exact hj
    have := h2.1
    simp [Array.getD, hlt] at this ⊢
    exact this
theorem Inv.down' (I : Inv P ops tT tH sk vl B0 w0 m0 wI listed q m a w) {j : Nat} {o : Oper} (hr : Ready ops (fun i => listed.getD i false) j o) : Down ops (fun i => (listed.setIfInBounds j true).getD i false = true) := by
  have hlt : j < listed.size := by rw [I.lsize]; exact (Array.getElem?_eq_some_iff.1 hr.op).1
  intro i oi hi hD e he hb
  simp only [getD_set hlt] at hD ⊢
  by_cases hij : i = j
  · subst hij
    rw [hr.op] at hi
    cases hi
    have := hr.edges e he hb
    split
    · rfl
    · exact this
  · rw [if_neg hij] at hD
    have := I.down i oi hi hD e he hb
    split
    · rfl
    · exact this
/-- An operation that doesn't act is done: slots and marks. -/
theorem Inv.mark (hreg : regOK ops = true) (I : Inv P ops tT tH sk vl B0 w0 m0 wI listed q m a w) {j : Nat} {o : Oper} (hr : Ready ops (fun i => listed.getD i false) j o) (hne : eE ops sk j = false) {m2 : Mp} {w2 : World} {v' : Value}
    (hmono : ∀ b L, m b = some L → m2 b = some L) (hv : VRel m2 (vl j) v') (hvr : VR P B0 w0 tH ops.size q m2 w2) (hdm : ∀ b L, m2 b = some L → m b = some L ∨ ((tH j).length ≤ b ∧ b < (tH (j + 1)).length ∧ w.heap.size ≤ L.blk)) (h0 : (tH 0).length ≤ (tH j).length)
    (hs : w.heap.size ≤ w2.heap.size) (hw : ∀ B, B < w.heap.size → w2.heap[B]? = w.heap[B]?) :
    Inv P ops tT tH sk vl B0 w0 m0 wI (listed.setIfInBounds j true) q m2 (a.put o.dst v') w2 := by
  have hj : j < ops.size := (Array.getElem?_eq_some_iff.1 hr.op).1
  have hlt : j < listed.size := by rw [I.lsize]; exact hj
  refine ⟨by simp [I.lsize], I.down' hr, I.hq, fun h => ?_, fun e he hE => ?_, ?_, by rw [AM.put_defers]; exact I.defers, hvr, fun b L hb => ?_, fun b L hb => hmono b L (I.mono0 b L hb), Nat.le_trans I.size hs, fun b L hb => ?_, fun B hB hr' => ?_⟩
  · obtain ⟨h1, h2⟩ := I.hq1 h
    refine ⟨h1, ?_⟩
    rw [getD_set hlt, if_neg]
    · exact h2
    · intro he
      subst he
      rw [h1] at hne
      cases hne
  · rw [getD_set hlt]
    split
    · rfl
    · exact I.hq2 e he hE
  · have e1 : (fun i => (listed.setIfInBounds j true).getD i false) = fun i => if i = j then true else listed.getD i false := by funext i; exact getD_set hlt i
    rw [e1, hr.put hreg]
    exact put_rel (I.slots.mono hmono) _ hv
  · rcases hdm b L hb with h1 | ⟨h1, h2, h3⟩
    · rcases I.dm b L h1 with h4 | ⟨i, h4, h5, h6⟩
      · exact .inl h4
      · refine .inr ⟨i, h4, ?_, h6⟩
        rw [getD_set hlt]
        split
        · rfl
        · exact h5
    · exact .inr ⟨j, hj, by rw [getD_set hlt, if_pos rfl], h1, h2⟩
  · rcases hdm b L hb with h1 | ⟨h1, h2, h3⟩
    · exact I.new b L h1
    · exact .inr ⟨by omega, .inl (Nat.le_trans I.size h3)⟩
  · rw [hw B (Nat.lt_of_lt_of_le hB I.size)]
    exact I.frame B hB hr'
/-- A read tells the same now. -/
theorem Inv.readNow (X : Tr P call ops (befL [] ops.toList) 0 tT tH sk vl) (A : Along ops tT tH m0) (I : Inv P ops tT tH sk vl B0 w0 m0 wI listed q m a w) {j : Nat} {o : Oper} (hr : Ready ops (fun i => listed.getD i false) j o) (hs : sk j = false) {f : AH → Option Value}
    (hf : opRead P (opv (tT j)) o.op = some f) : f (tH q) = some (vl j) := by
  have hj : j < ops.size := (Array.getElem?_eq_some_iff.1 hr.op).1
  have hnj : eE ops sk j = false := by simp [eE, hr.op, read_not_eff hf]
  rcases Nat.lt_or_ge j q with hlt | hge
  · have key : ∀ d, j + 1 + d ≤ q → f (tH (j + 1 + d)) = some (vl j) := by
      intro d
      induction d with
      | zero =>
        intro _
        obtain ⟨h1, h2⟩ := X.read j o f (Nat.zero_le _) hr.op hs hf
        rw [Nat.add_zero, h2]
        exact h1
      | succ d ih =>
        intro hd
        have hprev := ih (by omega)
        have hq := I.hq
        cases hE : eE ops sk (j + 1 + d) with
        | true =>
          obtain ⟨oe, he1, he2, he3⟩ := eE_inv hE
          have hl := I.hq2 (j + 1 + d) (by omega) hE
          have hord : ordB (befL [] ops.toList) j (j + 1 + d) = false := by
            cases hc : ordB (befL [] ops.toList) j (j + 1 + d) with
            | false => rfl
            | true => have := hr.behind he1 hc; rw [hl] at this; cases this
          exact X.futR j o f (j + 1 + d) oe (Nat.zero_le _) (by omega) hr.op he1 hs he3 he2 hf hord
        | false =>
          rcases X.noeff (j := j + 1 + d) (by omega) hE with h3 | ⟨k, _, h3⟩
          · rw [show j + 1 + (d + 1) = j + 1 + d + 1 by omega, h3]; exact hprev
          · rw [show j + 1 + (d + 1) = j + 1 + d + 1 by omega, h3]
            exact opRead_keep hf (fun b k' hk => by rw [blk_app_old _ (blk_lt' hk)]; exact hk) hprev
    have := key (q - (j + 1)) (by omega)
    rwa [show j + 1 + (q - (j + 1)) = q by omega] at this
  · have hne : q ≠ j := by
      intro he
      subst he
      have := (I.hq1 hj).1
      rw [hnj] at this
      cases this
    obtain ⟨h1, h2⟩ := I.hq1 (by omega)
    obtain ⟨oe, he1, he2, he3⟩ := eE_inv h1
    refine X.pastR j o f q oe (Nat.zero_le _) (by omega) hr.op he1 hs he3 he2 hf ?_
    cases hc : ordB (befL [] ops.toList) q j with
    | false => rfl
    | true => have := hr.before hc; rw [h2] at this; cases this
/-- A block that is yet to be made stands as it will be made. -/
theorem Inv.makeNow (X : Tr P call ops (befL [] ops.toList) 0 tT tH sk vl) (A : Along ops tT tH m0) (I : Inv P ops tT tH sk vl B0 w0 m0 wI listed q m a w) {j : Nat} {o : Oper} (hr : Ready ops (fun i => listed.getD i false) j o) (hs : sk j = false)
    (hf : opRead P (opv (tT j)) o.op = none) (ha : isAlloc o.op = true) {k : Blk} (hk : tH (j + 1) = tH j ++ [some k]) : kb tH ops.size q (tH j).length = some k := by
  have hj : j < ops.size := (Array.getElem?_eq_some_iff.1 hr.op).1
  have hnew : blk (tH (j + 1)) (tH j).length = some k := by rw [hk]; unfold blk; simp
  have hlen : (tH (j + 1)).length = (tH j).length + 1 := by rw [hk]; simp
  have hnj : eE ops sk j = false := by simp [eE, hr.op, alloc_not_eff ha]
  rcases Nat.lt_or_ge j q with hlt | hge
  · have key : ∀ d, j + 1 + d ≤ q → blk (tH (j + 1 + d)) (tH j).length = some k := by
      intro d
      induction d with
      | zero => intro _; exact hnew
      | succ d ih =>
        intro hd
        have hprev := ih (by omega)
        have hq := I.hq
        cases hE : eE ops sk (j + 1 + d) with
        | true =>
          obtain ⟨oe, he1, he2, he3⟩ := eE_inv hE
          have hl := I.hq2 (j + 1 + d) (by omega) hE
          have hord : ordB (befL [] ops.toList) j (j + 1 + d) = false := by
            cases hc : ordB (befL [] ops.toList) j (j + 1 + d) with
            | false => rfl
            | true => have := hr.behind he1 hc; rw [hl] at this; cases this
          have := X.futA j o (j + 1 + d) oe (Nat.zero_le _) (by omega) hr.op he1 hs he3 he2 hf ha hord
          rw [show j + 1 + (d + 1) = j + 1 + d + 1 by omega, this]
          exact hnew
        | false =>
          rcases X.noeff (j := j + 1 + d) (by omega) hE with h3 | ⟨k', _, h3⟩
          · rw [show j + 1 + (d + 1) = j + 1 + d + 1 by omega, h3]; exact hprev
          · rw [show j + 1 + (d + 1) = j + 1 + d + 1 by omega, h3, blk_app_old _ (blk_lt' hprev)]
            exact hprev
    have := key (q - (j + 1)) (by omega)
    rw [show j + 1 + (q - (j + 1)) = q by omega] at this
    rw [kb_lt (blk_lt' this)]
    exact this
  · have hle := A.le hge (by omega)
    rw [kb_ge hle, ini_eq A.lens hj (Nat.le_refl _) (by omega)]
    exact hnew
end
end
end Go.AM
set_option linter.unusedVariables false
set_option linter.unusedSimpArgs false
namespace Go.AM
open Go.RowKit

section
variable {P : Program} {call : CallF} {ops : Array Oper} {tT : Nat → List Value} {tH : Nat → AH} {sk : Nat → Bool} {vl : Nat → Value} {B0 : Nat} {w0 : World} {m0 : Mp} {wI : World} {listed : Array Bool} {q : Nat} {m : Mp} {a : Act} {w : World}

theorem Tr.sv (X : Tr P call ops (befL [] ops.toList) 0 tT tH sk vl) {j : Nat} (hj : j ≤ ops.size) : (tT j).length = (tT 0).length ∧ ∀ s, s < (tT 0).length → (tT j).getD s undef = AM.sv ops vl (tT 0) (fun _ => true) j s :=
  tT_sv rfl (fun j o ho => X.step j o (Nat.zero_le _) ho) j hj
/-- What the operation looks at holds what it held in the text's own order. -/
theorem Inv.looks (hreg : regOK ops = true) (X : Tr P call ops (befL [] ops.toList) 0 tT tH sk vl) (I : Inv P ops tT tH sk vl B0 w0 m0 wI listed q m a w) {j : Nat} {o : Oper} (hr : Ready ops (fun i => listed.getD i false) j o) :
    ∀ s ∈ o.looksAt ops, s < (svL ops vl (tT 0) (fun i => listed.getD i false)).length → (svL ops vl (tT 0) (fun i => listed.getD i false)).getD s undef = (tT j).getD s undef := by
  intro s hs hlt
  rw [svL_length] at hlt
  rw [svL_getD _ hlt, hr.slots hreg hs, ((X.sv (Nat.le_of_lt (Array.getElem?_eq_some_iff.1 hr.op).1)).2 s hlt)]
theorem Inv.opv (hreg : regOK ops = true) (X : Tr P call ops (befL [] ops.toList) 0 tT tH sk vl) (I : Inv P ops tT tH sk vl B0 w0 m0 wI listed q m a w) {j : Nat} {o : Oper} (hr : Ready ops (fun i => listed.getD i false) j o) :
    (∀ x ∈ o.op.operands, AM.opv (svL ops vl (tT 0) (fun i => listed.getD i false)) x = AM.opv (tT j) x) ∧ ∀ g want, o.guard = some (g, want) → yieldV ops (svL ops vl (tT 0) (fun i => listed.getD i false)) g = yieldV ops (tT j) g := by
  have hj := Nat.le_of_lt (Array.getElem?_eq_some_iff.1 hr.op).1
  exact opv_slots (by rw [svL_length, (X.sv hj).1]) (I.looks hreg X hr)
theorem Inv.wanted (hreg : regOK ops = true) (X : Tr P call ops (befL [] ops.toList) 0 tT tH sk vl) (I : Inv P ops tT tH sk vl B0 w0 m0 wI listed q m a w) {j : Nat} {o : Oper} (hr : Ready ops (fun i => listed.getD i false) j o) :
    Region.wanted o (yielded ops a.tmps) = !sk j := by
  obtain ⟨_, hy⟩ := I.opv hreg X hr
  cases hs : sk j with
  | true =>
    obtain ⟨⟨g, want, hg, hu⟩, _⟩ := X.skip j o (Nat.zero_le _) hr.op hs
    rcases hu with ⟨b, hu, hb⟩ | ⟨vs, hu, _⟩
    · rw [wanted_of hg ((yield_rel I.slots g).1 b (by rw [hy g want hg]; exact hu))]
      simp [hb]
    · rw [wanted_of hg ((yield_rel I.slots g).2 vs (by rw [hy g want hg]; exact hu))]
      rfl
  | false =>
    rcases X.go j o (Nat.zero_le _) hr.op hs with hg | ⟨g, want, hg, hu⟩
    · unfold Region.wanted; rw [hg]; rfl
    · rw [wanted_of hg ((yield_rel I.slots g).1 want (by rw [hy g want hg]; exact hu))]
      simp
/-- What acts next is the one. -/
theorem Inv.isq (hreg : regOK ops = true) (I : Inv P ops tT tH sk vl B0 w0 m0 wI listed q m a w) {j : Nat} {o : Oper} (hr : Ready ops (fun i => listed.getD i false) j o) (hE : eE ops sk j = true) : j = q := by
  have hj : j < ops.size := (Array.getElem?_eq_some_iff.1 hr.op).1
  rcases Nat.lt_trichotomy j q with h | h | h
  · have := I.hq2 j h hE
    have h2 := hr.not
    rw [this] at h2
    cases h2
  · exact h
  · obtain ⟨h1, h2⟩ := I.hq1 (by omega)
    obtain ⟨oq, hq1, hq2, _⟩ := eE_inv h1
    obtain ⟨oj, hj1, hj2, _⟩ := eE_inv hE
    rcases regOK_pair hreg h hq1 hj1 with h3 | ⟨h3, _⟩
    · have := hr.before h3; rw [h2] at this; cases this
    · exact (h3 hq2 hj2).elim
/-- The slots that an operation looks at, under the lesser map. -/
theorem Inv.masked (hreg : regOK ops = true) (X : Tr P call ops (befL [] ops.toList) 0 tT tH sk vl) (A : Along ops tT tH m0) (I : Inv P ops tT tH sk vl B0 w0 m0 wI listed q m a w) {j : Nat} {o : Oper} (hr : Ready ops (fun i => listed.getD i false) j o) :
    ∃ T, LRel (cutM m (tH j).length) T a.tmps.toList ∧ ∀ x ∈ o.op.operands, AM.opv T x = AM.opv (tT j) x := by
  have hj : j ≤ ops.size := Nat.le_of_lt (Array.getElem?_eq_some_iff.1 hr.op).1
  refine ⟨(List.range (tT 0).length).map fun s => if s ∈ o.looksAt ops then (tT j).getD s undef else unk, ⟨?_, ?_⟩, ?_⟩
  · rw [List.length_map, List.length_range, ← I.slots.1, svL_length]
  · intro s x y hx hy
    rw [List.getElem?_map] at hx
    have hlt : s < (tT 0).length := by
      rcases Nat.lt_or_ge s (tT 0).length with h1 | h1
      · exact h1
      · rw [List.getElem?_eq_none (by simpa using h1)] at hx; cases hx
    rw [List.getElem?_range hlt, Option.map_some] at hx
    cases hx
    split
    · rename_i hs
      have h1 := I.looks hreg X hr s hs (by rw [svL_length]; exact hlt)
      have h2 : (svL ops vl (tT 0) (fun i => listed.getD i false))[s]? = some ((tT j).getD s undef) := by
        rw [← h1, List.getD_eq_getElem?_getD, List.getElem?_eq_getElem (by rw [svL_length]; exact hlt)]
        rfl
      have h3 := I.slots.2 s _ y h2 hy
      have h4 : (tT j)[s]? = some ((tT j).getD s undef) := by
        rw [List.getD_eq_getElem?_getD, List.getElem?_eq_getElem (by rw [(X.sv hj).1]; exact hlt)]
        rfl
      exact h3.cutB (A.bel j s _ hj h4)
    · exact .unk _
  · refine (opv_slots (ops := ops) (by rw [List.length_map, List.length_range, (X.sv hj).1]) fun s hs hlt => ?_).1
    rw [List.length_map, List.length_range] at hlt
    rw [List.getD_eq_getElem?_getD, List.getElem?_map, List.getElem?_range hlt, Option.map_some, Option.getD_some, if_pos hs]
theorem Inv.act (hreg : regOK ops = true) (X : Tr P call ops (befL [] ops.toList) 0 tT tH sk vl) (A : Along ops tT tH m0) (I : Inv P ops tT tH sk vl B0 w0 m0 wI listed q m a w) {o : Oper} (hr : Ready ops (fun i => listed.getD i false) q o) (hE : eE ops sk q = true)
    {m1 : Mp} {w1 : World} {v' : Value} (E : Ext (cutM m (tH q).length) (tH q) w m1 (tH (q + 1)) w1) (R1 : Rel P B0 w0 m1 (tH (q + 1)) w1) (hv : VRel m1 (vl q) v') :
    ∃ q' m2, Inv P ops tT tH sk vl B0 w0 m0 wI (listed.setIfInBounds q true) q' m2 (a.put o.dst v') w1 := by
  have hq : q < ops.size := (Array.getElem?_eq_some_iff.1 hr.op).1
  have hlt : q < listed.size := by rw [I.lsize]; exact hq
  obtain ⟨q', hq1, hq2, hq3, hq4⟩ := nextE (ops := ops) (sk := sk) (q + 1) (ops.size - (q + 1)) (by omega)
  have hlen := A.le (i := q) (j := q + 1) (by omega) (by omega)
  have hsame := X.same (q + 1) (q' - (q + 1)) (by omega) (fun e h1 h2 => hq3 e h1 (by omega))
  rw [show q + 1 + (q' - (q + 1)) = q' by omega] at hsame
  have hini : ∀ b, (tH (q + 1)).length ≤ b → b < (tH q').length → blk (tH q') b = ini tH ops.size b := by
    intro b h1 h2
    obtain ⟨j, h3, h4, h5, h6⟩ := crossing (fun i => (tH i).length) (q + 1) b h1 (q' - (q + 1)) (by rw [show q + 1 + (q' - (q + 1)) = q' by omega]; exact h2)
    rw [ini_eq A.lens (show j < ops.size by omega) h5 h6]
    have h7 := X.same (j + 1) (q' - (j + 1)) (by omega) (fun e h7 h8 => hq3 e (by omega) (by omega))
    rw [show j + 1 + (q' - (j + 1)) = q' by omega] at h7
    exact h7.2 b h6
  have hnew : ∀ b, (tH q).length ≤ b → b < (tH (q + 1)).length → m b = none := by
    intro b h1 h2
    cases hb : m b with
    | none => rfl
    | some L =>
      exfalso
      rcases I.dm b L hb with h3 | ⟨i, h3, h4, h5, h6⟩
      · have := A.le (i := 0) (j := q) (by omega) (by omega); omega
      · rcases Nat.lt_trichotomy i q with h7 | h7 | h7
        · have := A.le (i := i + 1) (j := q) (by omega) (by omega); omega
        · subst h7
          have := hr.not
          rw [h4] at this
          cases this
        · have := A.le (i := q + 1) (j := i) (by omega) (by omega); omega
  obtain ⟨V, hmono⟩ := I.vr.eff (by omega) hq2 hlen hsame hini (A.le hq2 (Nat.le_refl _)) R1 E hnew
  have hmono1 : ∀ b L, m1 b = some L → mrg m1 m (tH (q + 1)).length b = some L := by
    intro b L hb
    unfold mrg
    rw [if_pos (R1.dom b L hb).1]
    exact hb
  have split_ : ∀ b L, mrg m1 m (tH (q + 1)).length b = some L → m b = some L ∨ ((tH q).length ≤ b ∧ b < (tH (q + 1)).length ∧ (w.heap.size ≤ L.blk ∨ ∃ b0 L0 k0, m b0 = some L0 ∧ blk (tH q) b0 = some k0 ∧ b0 < (tH q).length ∧ k0.kind ≠ .ro ∧ L0.blk = L.blk)) := by
    intro b L hb
    unfold mrg at hb
    split at hb
    · rename_i h1
      rcases E.new b L hb with h2 | ⟨h2, h3 | ⟨b0, L0, k0, h3, h4, h5, h6⟩⟩
      · exact .inl (cutM_some h2).2
      · exact .inr ⟨h2, h1, .inl h3⟩
      · obtain ⟨h7, h8⟩ := cutM_some h3
        exact .inr ⟨h2, h1, .inr ⟨b0, L0, k0, h8, h4, h7, h5, h6⟩⟩
    · exact .inl hb
  -- an own block that there was
  have own0 : ∀ b L k, m b = some L → blk (tH q) b = some k → k.kind ≠ .ro → (wI.heap.size ≤ L.blk ∨ ∃ b0 L0 k0, m0 b0 = some L0 ∧ blk (tH 0) b0 = some k0 ∧ k0.kind ≠ .ro ∧ L0.blk = L.blk) := by
    intro b L k h1 h2 h3
    rcases I.new b L h1 with h4 | ⟨_, h4⟩
    · obtain ⟨k0, h5, h6⟩ := A.alive q (by omega) b k (A.dom0 b L h4) h2
      exact .inr ⟨b, L, k0, h4, h5, by rw [h6]; exact h3, rfl⟩
    · exact h4
  refine ⟨q', mrg m1 m (tH (q + 1)).length, ⟨by simp [I.lsize], I.down' hr, hq2, fun h => ⟨hq4 h, ?_⟩, fun e he hEe => ?_, ?_, by rw [AM.put_defers]; exact I.defers, V, fun b L hb => ?_, fun b L hb => hmono b L (I.mono0 b L hb), Nat.le_trans I.size E.size, fun b L hb => ?_, fun B hB hr' => ?_⟩⟩
  · rw [getD_set hlt, if_neg (by omega)]
    cases hc : listed.getD q' false with
    | false => rfl
    | true =>
      exfalso
      obtain ⟨oq', h1, h2, _⟩ := eE_inv (hq4 h)
      obtain ⟨oq, h3, h4, _⟩ := eE_inv hE
      rcases regOK_pair hreg (show q < q' by omega) h3 h1 with h5 | ⟨h5, _⟩
      · have := hr.behind h1 h5
        rw [hc] at this
        cases this
      · exact h5 h4 h2
  · rw [getD_set hlt]
    split
    · rfl
    · rename_i hne
      rcases Nat.lt_or_ge e q with h1 | h1
      · exact I.hq2 e h1 hEe
      · have := hq3 e (by omega) he
        rw [hEe] at this
        cases this
  · have e1 : (fun i => (listed.setIfInBounds q true).getD i false) = fun i => if i = q then true else listed.getD i false := by funext i; exact getD_set hlt i
    rw [e1, hr.put hreg]
    exact put_rel (I.slots.mono hmono) _ (hv.mono hmono1)
  · rcases split_ b L hb with h1 | ⟨h1, h2, _⟩
    · rcases I.dm b L h1 with h4 | ⟨i, h4, h5, h6⟩
      · exact .inl h4
      · refine .inr ⟨i, h4, ?_, h6⟩
        rw [getD_set hlt]
        split
        · rfl
        · exact h5
    · exact .inr ⟨q, hq, by rw [getD_set hlt, if_pos rfl], h1, h2⟩
  · rcases split_ b L hb with h1 | ⟨h1, h2, h3⟩
    · exact I.new b L h1
    · have := A.le (i := 0) (j := q) (by omega) (by omega)
      refine .inr ⟨by omega, ?_⟩
      rcases h3 with h3 | ⟨b0, L0, k0, h3, h4, _, h5, h6⟩
      · exact .inl (Nat.le_trans I.size h3)
      · have := own0 b0 L0 k0 h3 h4 h5
        rw [h6] at this
        exact this
  · rw [E.frame B (Nat.lt_of_lt_of_le hB I.size), I.frame B hB hr']
    intro b L k hb hk hne
    obtain ⟨h1, h2⟩ := cutM_some hb
    rcases own0 b L k h2 hk hne with h3 | ⟨b0, L0, k0, h3, h4, h5, h6⟩
    · omega
    · rw [← h6]; exact hr' b0 L0 k0 h3 h4 h5
def left (ops : Array Oper) (listed : Array Bool) : List Nat := (List.range ops.size).filter fun i => !listed.getD i false
theorem filter_less {f g : Nat → Bool} : ∀ (l : List Nat) (j : Nat), j ∈ l → f j = true → g j = false → (∀ i, g i = true → f i = true) → (l.filter g).length < (l.filter f).length
  | [], j, hj, _, _, _ => by cases hj
  | i :: l, j, hj, hf, hg, hgf => by
    have hle : (l.filter g).length ≤ (l.filter f).length := by
      clear hj
      induction l with
      | nil => simp
      | cons i l ih =>
        simp only [List.filter_cons]
        cases hgi : g i with
        | true => rw [hgf i hgi]; simp; exact ih
        | false => cases f i <;> simp <;> omega
    by_cases hij : i = j
    · subst hij
      simp only [List.filter_cons, hf, hg, if_true]
      simp
      omega
    · have hjl : j ∈ l := by cases hj with | head => exact (hij rfl).elim | tail _ h => exact h
      have := filter_less l j hjl hf hg hgf
      simp only [List.filter_cons]
      cases hgi : g i with
      | true => rw [hgf i hgi]; simp; exact this
      | false => cases f i <;> simp <;> omega
theorem Inv.any (hcall : CallOK P call) (hreg : regOK ops = true) (X : Tr P call ops (befL [] ops.toList) 0 tT tH sk vl) (A : Along ops tT tH m0) {Q : Exit → Act → World → Prop}
    (hq : ∀ (m' : Mp) (a' : Act) (w' : World), After P B0 w0 m0 (tH 0) wI (tT ops.size) (tH ops.size) m' a' w' → Q .normal a' w') :
    ∀ (fuel : Nat) (listed : Array Bool) (q : Nat) (m : Mp) (a : Act) (w : World), Inv P ops tT tH sk vl B0 w0 m0 wI listed q m a w → (left ops listed).length ≤ fuel → wpAny P .any ops Q fuel listed a w := by
  -- when nothing is ready, all is done
  have fin : ∀ (listed : Array Bool) (q : Nat) (m : Mp) (a : Act) (w : World), Inv P ops tT tH sk vl B0 w0 m0 wI listed q m a w → (∀ j, j < ops.size → listed.getD j false = true) → Q .normal a w := by
    intro listed q m a w I hall
    have hqn : q = ops.size := by
      rcases Nat.lt_or_ge q ops.size with h | h
      · have := (I.hq1 h).2
        rw [hall q h] at this
        cases this
      · have := I.hq; omega
    subst hqn
    have hN : ∀ b L, m b = some L → cutM m (tH ops.size).length b = some L := fun b L hb => cutM_of (I.vr.dom b L hb).1 hb
    have hT : svL ops vl (tT 0) (fun i => listed.getD i false) = tT ops.size := by
      obtain ⟨h1, h2⟩ := X.sv (Nat.le_refl ops.size)
      apply List.ext_getElem?
      intro s
      rcases Nat.lt_or_ge s (tT 0).length with hs | hs
      · have e1 : (svL ops vl (tT 0) (fun i => listed.getD i false))[s]? = some (AM.sv ops vl (tT 0) (fun i => listed.getD i false) ops.size s) := by
          unfold svL; rw [List.getElem?_map, List.getElem?_range hs]; rfl
        rw [e1, AM.sv_congr (D' := fun _ => true) _ (fun j hj _ => hall j hj), ← h2 s hs, List.getD_eq_getElem?_getD, List.getElem?_eq_getElem (by omega)]
        rfl
      · rw [List.getElem?_eq_none (by rw [svL_length]; exact hs), List.getElem?_eq_none (by omega)]
    refine hq (cutM m (tH ops.size).length) a w ⟨⟨fun b L hb => hN b L (I.mono0 b L hb), A.le (Nat.zero_le _) (Nat.le_refl _), I.size, fun b k' hb hk => A.alive ops.size (Nat.le_refl _) b k' hb hk, fun b L hb => I.new b L (cutM_some hb).2, I.frame⟩, I.vr.rel, ?_, I.defers⟩
    rw [← hT]
    exact I.slots.mono hN
  have ready_nil : ∀ (listed : Array Bool), Region.ready .any ops listed = [] → listed.size = ops.size → ∀ j, j < ops.size → listed.getD j false = true := by
    intro listed hnil hsz j
    induction j using Nat.strongRecOn with
    | _ j ih =>
      intro hj
      cases hl : listed.getD j false with
      | true => rfl
      | false =>
        exfalso
        have ho : ops[j]? = some ops[j] := Array.getElem?_eq_getElem hj
        have hmem : j ∈ Region.ready .any ops listed := by
          unfold Region.ready
          rw [List.mem_filter]
          refine ⟨List.mem_range.2 hj, ?_⟩
          rw [Bool.and_eq_true, ho]
          have hlt : j < listed.size := by omega
          refine ⟨by simp [Array.getD, hlt] at hl ⊢; exact hl, ?_⟩
          simp only [Option.map_some, Option.getD_some]
          refine Array.all_eq_true'.2 fun e he => ?_
          cases hb : Region.binds .any e with
          | false => rfl
          | true =>
            have hlte := regOK_edge hreg ho he hb
            simp [ih e.on hlte (by omega)]
        rw [hnil] at hmem
        cases hmem
  intro fuel
  induction fuel with
  | zero =>
    intro listed q m a w I hf
    have hall : ∀ j, j < ops.size → listed.getD j false = true := by
      intro j hj
      cases hl : listed.getD j false with
      | true => rfl
      | false =>
        exfalso
        have : j ∈ left ops listed := List.mem_filter.2 ⟨List.mem_range.2 hj, by simp [hl]⟩
        have hnil : left ops listed = [] := List.eq_nil_of_length_eq_zero (by omega)
        rw [hnil] at this
        cases this
    refine ⟨?_, fin listed q m a w I hall⟩
    cases hr : Region.ready .any ops listed with
    | nil => rfl
    | cons j rest =>
      exfalso
      obtain ⟨o, hrd⟩ := I.rdy (j := j) (by rw [hr]; simp)
      have := hrd.not
      rw [hall j (Array.getElem?_eq_some_iff.1 hrd.op).1] at this
      cases this
  | succ fuel ih =>
    intro listed q m a w I hf
    refine ⟨fun hnil => fin listed q m a w I (ready_nil listed hnil I.lsize), fun j hjr => ?_⟩
    obtain ⟨o, hr⟩ := I.rdy hjr
    have hj : j < ops.size := (Array.getElem?_eq_some_iff.1 hr.op).1
    have hlt : j < listed.size := by rw [I.lsize]; exact hj
    have hfuel : (left ops (listed.setIfInBounds j true)).length ≤ fuel := by
      have : (left ops (listed.setIfInBounds j true)).length < (left ops listed).length := by
        refine filter_less _ j (List.mem_range.2 hj) (by have := hr.not; simpa using this) (by rw [getD_set hlt]; simp) fun i hi => ?_
        rw [getD_set hlt] at hi
        split at hi
        · cases hi
        · exact hi
      omega
    have h0 : (tH 0).length ≤ (tH j).length := A.le (Nat.zero_le _) (by omega)
    unfold wpOp
    rw [hr.op]
    simp only
    rw [I.wanted hreg X hr]
    cases hs : sk j with
    | true =>
      simp only [Bool.not_true, Bool.false_eq_true, if_false]
      obtain ⟨_, h2, _⟩ := X.skip j o (Nat.zero_le _) hr.op hs
      refine ih _ q m _ w (I.mark hreg hr (by simp [eE, hs]) (fun _ _ h => h) (by rw [h2]; exact VRel.undef _) I.vr (fun b L h => .inl h) h0 (Nat.le_refl _) fun _ _ => rfl) hfuel
    | false =>
      simp only [Bool.not_false, if_true]
      refine .inl ?_
      obtain ⟨hop, _⟩ := I.opv hreg X hr
      cases hE : eE ops sk j with
      | true =>
        have hjq := I.isq hreg hr hE
        subst hjq
        obtain ⟨T, hT, hTo⟩ := I.masked hreg X A hr
        have hres := X.res hr.op hs
        rw [← aRes_congr o.op hTo] at hres
        refine res_sound hcall hres I.vr.rel hT _ _ fun m1 v' w1 E R1 hv => ?_
        obtain ⟨q', m2, I2⟩ := I.act hreg X A hr hE E R1 hv
        exact ih _ q' m2 _ w1 I2 hfuel
      | false =>
        have heff : isEff o.op = false := by simpa [eE, hr.op, hs] using hE
        cases hf' : opRead P (AM.opv (tT j)) o.op with
        | some f =>
          have hnow := I.readNow X A hr hs hf'
          have hpad : f (padH tH ops.size q) = some (vl j) := opRead_keep hf' (fun b k hk => by
            unfold padH blk
            rw [List.getElem?_append_left (blk_lt' hk)]
            exact hk) hnow
          rw [← opRead_congr o.op hop] at hf'
          obtain ⟨v', q1, q2⟩ := read_sound (I.vr.pad (A.le I.hq (Nat.le_refl _))) I.slots hf' hpad
          unfold Oper.wp
          rw [q1]
          exact ih _ q m _ w (I.mark hreg hr hE (fun _ _ h => h) q2 I.vr (fun b L h => .inl h) h0 (Nat.le_refl _) fun _ _ => rfl) hfuel
        | none =>
          have hres := X.other j o (Nat.zero_le _) hr.op hs hf'
          cases ha : isAlloc o.op with
          | false =>
            obtain ⟨_, hpure⟩ := pure_res heff hf' ha hres
            have hp2 := hpure (List.replicate (tH ops.size).length none)
            rw [← aRes_congr o.op hop] at hp2
            have hN : ∀ b L, m b = some L → cutM m (tH ops.size).length b = some L := fun b L hb => cutM_of (I.vr.dom b L hb).1 hb
            refine res_sound hcall hp2 (I.vr.dead _) (I.slots.mono hN) _ _ fun m1 v' w1 E R1 hv => ?_
            have hback : ∀ b L, m1 b = some L → m b = some L := by
              intro b L hb
              rcases E.new b L hb with h1 | ⟨h1, _⟩
              · exact (cutM_some h1).2
              · have := (R1.dom b L hb).1; omega
            have hw : ∀ B, B < w.heap.size → w1.heap[B]? = w.heap[B]? := fun B hB => E.frame B hB fun b L k _ hk => by rw [blk_dead] at hk; cases hk
            exact ih _ q m _ w1 (I.mark hreg hr hE (fun _ _ h => h) (hv.mono hback) (I.vr.still R1.below E.size hw) (fun b L h => .inl h) h0 E.size hw) hfuel
          | true =>
            obtain ⟨k, hk1, hk2, hall⟩ := alloc_res ha hres
            have hp2 := hall (List.replicate (tH j).length none) (by simp)
            have hkb := I.makeNow X A hr hs hf' ha hk2
            have hlen : (tH (j + 1)).length = (tH j).length + 1 := by rw [hk2]; simp
            have hnone : m (tH j).length = none := by
              cases hb : m (tH j).length with
              | none => rfl
              | some L =>
                exfalso
                rcases I.dm _ L hb with h3 | ⟨i, h3, h4, h5, h6⟩
                · omega
                · rcases Nat.lt_trichotomy i j with h7 | h7 | h7
                  · have := A.le (i := i + 1) (j := j) (by omega) (by omega); omega
                  · subst h7
                    have := hr.not
                    rw [h4] at this
                    cases this
                  · have := A.le (i := j + 1) (j := i) (by omega) (by omega); omega
            obtain ⟨T, hT, hTo⟩ := I.masked hreg X A hr
            rw [← aRes_congr o.op hTo] at hp2
            refine res_sound hcall hp2 (I.vr.dead _) hT _ _ fun m1 v' w1 E R1 hv => ?_
            have hmap : ∃ L, m1 (tH j).length = some L := by
              rcases hk1.2 with h1 | ⟨n, c, h1⟩
              · rw [h1] at hv; obtain ⟨L, h2, _⟩ := VRel.ptr_inv hv; exact ⟨L, h2⟩
              · rw [h1] at hv; obtain ⟨L, _, _, h2, _⟩ := VRel.slice_inv hv; exact ⟨L, h2⟩
            obtain ⟨L, hL⟩ := hmap
            have hup : ∀ b L', m1 b = some L' → upd m (tH j).length L b = some L' ∧ b < (tH j).length + 1 := by
              intro b L' hb
              have h2 := (R1.dom b L' hb).1
              rw [List.length_append, List.length_replicate, List.length_singleton] at h2
              refine ⟨?_, h2⟩
              unfold upd
              by_cases hbl : b = (tH j).length
              · subst hbl; rw [if_pos rfl, ← hL]; exact hb
              · rw [if_neg hbl]
                rcases E.new b L' hb with h1 | ⟨h1, _⟩
                · exact (cutM_some h1).2
                · rw [List.length_replicate] at h1; omega
            have hblk : blk (List.replicate (tH j).length none ++ [some k]) (tH j).length = some k := by
              unfold blk
              rw [List.getElem?_append_right (by simp)]
              simp
            have hfresh : w.heap.size ≤ L.blk := by
              rcases E.new _ L hL with h1 | ⟨_, h1 | ⟨b0, L0, k0, _, h1, _⟩⟩
              · have := (cutM_some h1).1; omega
              · exact h1
              · rw [blk_dead] at h1; cases h1
            have hw : ∀ B, B < w.heap.size → w1.heap[B]? = w.heap[B]? := fun B hB => E.frame B hB fun b L k _ hk => by rw [blk_dead] at hk; cases hk
            have hmono : ∀ b L', m b = some L' → upd m (tH j).length L b = some L' := by
              intro b L' hb
              unfold upd
              rw [if_neg]
              · exact hb
              · intro he; rw [he, hnone] at hb; cases hb
            have hV := I.vr.alloc R1.below E.size hw (l := (tH j).length) (L := L) (k := k) (by have := A.le (i := j + 1) (j := ops.size) (by omega) (Nat.le_refl _); omega) hnone hkb hfresh (R1.dom _ L hL).2
              ((R1.blks _ L k hL hblk).mono fun b L' hb => cutM_of (hup b L' hb).2 (hup b L' hb).1)
            refine ih _ q _ _ w1 (I.mark hreg hr hE hmono (hv.mono fun b L' hb => (hup b L' hb).1) hV (fun b L' hb => ?_) h0 E.size hw) hfuel
            unfold upd at hb
            split at hb
            · rename_i he
              cases hb
              exact .inr ⟨by omega, by omega, hfresh⟩
            · exact .inl hb
theorem getD_replicate (n i : Nat) : (Array.replicate n false).getD i false = false := by
  unfold Array.getD
  split
  · simp
  · rfl
theorem draw_ok {P : Program} {call : CallF} (hcall : CallOK P call) : DrawOK P call := by
  intro ops hreg R T H K r h
  obtain ⟨tT, tH, sk, vl, h0, h1, X, _, hK⟩ := evD_inv ops (befL [] ops.toList) ops.toList 0 T H [] [] (fun j => by simp) h
  simp only [Array.length_toList, Nat.zero_add] at hK
  subst h0 h1
  refine ⟨_, _, hK, fun B0 w0 m a w Q R0 hT hd hq => ?_⟩
  have A : Along ops tT tH m := ⟨fun i d hd => (X.lens hcall R0 hT i d hd).1, fun d hd b k' hb hk => by
      have := (X.lens hcall R0 hT 0 d (by omega)).2 b k' hb (by rw [Nat.zero_add]; exact hk)
      exact this, fun j s x hj hx => X.bel hcall R0 hT hj s x hx, fun b L hb => (R0.dom b L hb).1⟩
  obtain ⟨q, _, hq1, hq2, hq3⟩ := nextE (ops := ops) (sk := sk) 0 ops.size (by omega)
  have hsame := X.same 0 q (by omega) (fun e h1 h2 => hq2 e h1 (by omega))
  rw [Nat.zero_add] at hsame
  have hle := A.le hq1 (Nat.le_refl _)
  refine Inv.any hcall hreg X A hq ops.size _ q m a w ⟨by simp, fun j o ho hD => (by have hD' : (Array.replicate ops.size false).getD j false = true := hD; rw [getD_replicate] at hD'; cases hD'), hq1, fun hlt => ⟨hq3 hlt, getD_replicate _ _⟩, fun e he hE => ?_, ?_, hd, ?_, fun b L hb => .inl (R0.dom b L hb).1, fun _ _ h => h, Nat.le_refl _, fun b L hb => .inl hb, fun _ _ _ => rfl⟩ ?_
  · have := hq2 e (Nat.zero_le _) he
    rw [hE] at this
    cases this
  · have e1 : svL ops vl (tT 0) (fun i => (Array.replicate ops.size false).getD i false) = tT 0 := by
      apply List.ext_getElem?
      intro s
      rcases Nat.lt_or_ge s (tT 0).length with hs | hs
      · have e2 : (svL ops vl (tT 0) (fun i => (Array.replicate ops.size false).getD i false))[s]? = some (AM.sv ops vl (tT 0) (fun i => (Array.replicate ops.size false).getD i false) ops.size s) := by
          unfold svL; rw [List.getElem?_map, List.getElem?_range hs]; rfl
        have e3 := sv_cut (ops := ops) (vl := vl) (T0 := tT 0) (D := fun i => (Array.replicate ops.size false).getD i false) (s := s) (i := 0) ops.size fun j _ _ _ => getD_replicate _ _
        rw [Nat.zero_add] at e3
        rw [e2, e3]
        unfold AM.sv
        rw [List.getD_eq_getElem?_getD, List.getElem?_eq_getElem hs]
        rfl
      · rw [List.getElem?_eq_none (by rw [svL_length]; exact hs), List.getElem?_eq_none hs]
    rw [e1]
    exact hT
  · have kb0 : ∀ b, b < (tH 0).length → kb tH ops.size q b = blk (tH 0) b := fun b hb => by rw [kb_lt (by omega)]; exact hsame.2 b hb
    have hcut : ∀ l, (tH 0).length ≤ l → ∀ b L, m b = some L → cutM m l b = some L := fun l hl b L hb => cutM_of (by have := (R0.dom b L hb).1; omega) hb
    refine ⟨R0.below, R0.hB, fun b L hb => ⟨by have := (R0.dom b L hb).1; omega, (R0.dom b L hb).2⟩, fun b L k hb hk => ?_, fun b1 b2 L1 L2 k1 k2 hm1 hm2 hk1 hk2 hne hbb => ?_⟩
    · rw [kb0 b (R0.dom b L hb).1] at hk
      exact (R0.blks b L k hb hk).mono (hcut _ (by omega))
    · rw [kb0 b1 (R0.dom b1 L1 hm1).1] at hk1
      rw [kb0 b2 (R0.dom b2 L2 hm2).1] at hk2
      exact R0.inj b1 b2 L1 L2 k1 k2 hm1 hm2 hk1 hk2 hne hbb
  · unfold left
    exact Nat.le_trans (List.length_filter_le _ _) (by simp)
end
/-- What the evaluator tells of a call, the machine comes to. -/
theorem run_ok {P : Program} (hmix : P.follows .mixedOrders = true) {tbs : FuncId → Tbl} {gv : Given} (hgv : GivenOK P gv) (k : Nat) : CallOK P (run P tbs gv k) := run_sound (fun _ h => draw_ok h) hmix hgv k
end Go.AM
set_option linter.unusedVariables false
set_option linter.unusedSimpArgs false
namespace Go.AM
open Go.ChangeShapes Go.WideShapes Go.Deep Go.RowKit
variable {P : Program}

structure Ro (P : Program) (W : World) (m : Mp) (H : AH) : Prop where
  rel : Rel P W.heap.size W m H W
  ro : ∀ b k, blk H b = some k → k.kind = .ro
def Sub (m m' : Mp) : Prop := ∀ b L, m b = some L → m' b = some L
theorem Sub.refl (m : Mp) : Sub m m := fun _ _ h => h
theorem Sub.trans {a b c : Mp} (h : Sub a b) (k : Sub b c) : Sub a c := fun x L hx => k x L (h x L hx)
theorem Ro.empty (W : World) : Ro P W (fun _ => none) [] :=
  ⟨⟨Below.refl _ _, Nat.le_refl _, fun _ _ h => (by cases h), fun _ _ _ h => (by cases h), fun _ _ _ _ _ _ h => (by cases h)⟩, fun b k h => (by simp [blk] at h)⟩
def SlOK (W : World) (cs : List Value) : Prop := ∀ a len cap, Value.slice (some a) len cap ∈ cs → a.spot = none ∧ ∃ c e fr, W.heap[a.block]? = some (.cells c e fr)

/-- One more that came in. -/
theorem Ro.add {W : World} {m : Mp} {H : AH} {ks : List Value} {e : TypeId} {bl base : Nat} {c : Array Value} {te : TypeId} {fr : Nat × Nat} (R : Ro P W m H) (hb : W.heap[bl]? = some (.cells c te fr))
    (hl : LRel m ks ((c.toList.drop base).take ks.length)) :
    ∃ m' : Mp, Sub m m' ∧ m' H.length = some ⟨bl, base, .ro, 0, 0⟩ ∧ Ro P W m' (mkB H ks e .ro) := by
  refine ⟨fun b => if b = H.length then some ⟨bl, base, .ro, 0, 0⟩ else m b, ?_, if_pos rfl, ?_⟩
  · intro b L h
    have := (R.rel.dom b L h).1
    show (if b = H.length then _ else m b) = _
    rw [if_neg (by omega)]; exact h
  have hsub : Sub m (fun b => if b = H.length then some ⟨bl, base, .ro, 0, 0⟩ else m b) := by
    intro b L h
    have := (R.rel.dom b L h).1
    show (if b = H.length then _ else m b) = _
    rw [if_neg (by omega)]; exact h
  have hro : ∀ b k, blk (mkB H ks e .ro) b = some k → k.kind = .ro := by
    intro b k h
    by_cases hbn : b < H.length
    · rw [blk_mkB_old hbn] at h; exact R.ro b k h
    · have := blk_lt h
      rw [length_mkB] at this
      have : b = H.length := by omega
      subst this
      rw [blk_mkB_new] at h; cases h; rfl
  refine ⟨⟨R.rel.below, R.rel.hB, ?_, ?_, ?_⟩, hro⟩
  · intro b L h
    replace h : (if b = H.length then some _ else m b) = some L := h
    rw [length_mkB]
    by_cases hb2 : b = H.length
    · rw [if_pos hb2] at h; cases h
      exact ⟨by omega, (Array.getElem?_eq_some_iff.1 hb).1⟩
    · rw [if_neg hb2] at h
      have := R.rel.dom b L h
      exact ⟨by omega, this.2⟩
  · intro b L k h hk
    replace h : (if b = H.length then some _ else m b) = some L := h
    by_cases hb2 : b = H.length
    · rw [if_pos hb2] at h; cases h
      subst hb2
      rw [blk_mkB_new] at hk; cases hk
      exact ⟨rfl, ⟨c, te, fr, hb, hl.mono hsub, fun hh => absurd rfl hh, fun hh => (by cases hh), fun hh => (by cases hh)⟩, fun hh => absurd rfl hh, fun hh => (by cases hh)⟩
    · rw [if_neg hb2] at h
      have hlt := (R.rel.dom b L h).1
      rw [blk_mkB_old hlt] at hk
      have h1 := R.rel.blks b L k h hk
      obtain ⟨c', e', fr', q1, q2, q3, q4, q5⟩ := h1.there
      exact ⟨h1.kind, ⟨c', e', fr', q1, q2.mono hsub, q3, q4, q5⟩, h1.own, h1.esz⟩
  · intro b1 b2 L1 L2 k1 k2 _ _ h1 _ hne _
    exact absurd (hro b1 k1 h1) hne

/-- A kind of datum over the abstract heap. -/
structure Kn (α : Type) where
  K : AH → α → List Value → Prop
  mono : ∀ {H H' : AH} {a : α} {cs : List Value}, Mo H H' → K H a cs → K H' a cs
def Kn.int (k : IntKind) : Kn Int := ⟨fun _ n cs => cs = [.int k n], fun _ h => h⟩
def Kn.bool : Kn Bool := ⟨fun _ n cs => cs = [.bool n], fun _ h => h⟩
def Kn.string : Kn ByteArray := ⟨fun _ n cs => cs = [.string n], fun _ h => h⟩
def Kn.pair {α β : Type} (a : Kn α) (b : Kn β) : Kn (α × β) :=
  ⟨fun H x cs => ∃ c d, cs = c ++ d ∧ a.K H x.1 c ∧ b.K H x.2 d, fun hm ⟨c, d, h, h1, h2⟩ => ⟨c, d, h, a.mono hm h1, b.mono hm h2⟩⟩
def Kn.unit : Kn Unit := ⟨fun _ _ cs => cs = [], fun _ h => h⟩
/-- A slice that came in. -/
def Kn.slice {α : Type} (e : TypeId) (sz : Nat) (d : Kn α) : Kn (List α) :=
  ⟨fun H l cs => (cs = [.slice none 0 0] ∧ l = []) ∨ ∃ (b : Nat) (css : List (List Value)), cs = [sl b 0 l.length (l.length + 1)] ∧ blk H b = some ⟨css.flatten, e, .ro⟩ ∧ css.length = l.length ∧ ∀ (i : Nat) (a : α) (c : List Value), l[i]? = some a → css[i]? = some c → c.length = sz ∧ d.K H a c,
   by
    intro H H' l cs hm h
    rcases h with h | ⟨b, css, h1, h2, h3, h4⟩
    · exact .inl h
    · exact .inr ⟨b, css, h1, hm _ _ h2, h3, fun i a c h5 h6 => ⟨(h4 i a c h5 h6).1, d.mono hm (h4 i a c h5 h6).2⟩⟩⟩
/-- What follows from a cells' list: each is one. -/
def OpA (P : Program) (t : TypeId) {α : Type} (d : Kn α) (G : α → Prop) : Prop :=
  ∀ (Hh : Type) (enc : TypeId × Value → Hh) (W : World) (spare : Nat → Bool) (held : Bool) (fuel : Nat) (cs : List Value) (x : DataW Hh × List MemPlace),
    DataW.trod enc P W 0 spare held fuel t cs = some x → SlOK W cs → ∀ (m : Mp) (H : AH), Ro P W m H →
    ∃ m' H' cs' a, Ro P W m' H' ∧ Sub m m' ∧ Fr H H' ∧ LRel m' cs' cs ∧ d.K H' a cs' ∧ G a
theorem LRel.one {m : Mp} {x y : Value} (h : VRel m x y) : LRel m [x] [y] := LRel.cons h (LRel.nil m)
theorem opA_int {t : TypeId} {k : IntKind} (ht : P.underlying t = some (.int k)) : OpA P t (Kn.int k) (fun n => (Lit.int k n).wf = true) := by
  intro Hh enc W spare held fuel cs x h _ m H R
  obtain ⟨n, rfl, _, hw⟩ := DataW.trod_int ht h
  exact ⟨m, H, _, n, R, Sub.refl m, Fr.refl H, LRel.one (.flat _ rfl), rfl, hw⟩
theorem opA_bool {t : TypeId} (ht : P.underlying t = some .bool) : OpA P t Kn.bool (fun _ => True) := by
  intro Hh enc W spare held fuel cs x h _ m H R
  obtain ⟨n, rfl, _⟩ := DataW.trod_bool ht h
  exact ⟨m, H, _, n, R, Sub.refl m, Fr.refl H, LRel.one (.flat _ rfl), rfl, trivial⟩
/-- No slice among a type's cells. -/
def NoSl (P : Program) (t : TypeId) : Prop :=
  ∀ (Hh : Type) (enc : TypeId × Value → Hh) (W : World) (spare : Nat → Bool) (held : Bool) (fuel : Nat) (cs : List Value) (x : DataW Hh × List MemPlace), DataW.trod enc P W 0 spare held fuel t cs = some x → SlOK W cs
theorem noSl_int {t : TypeId} {k : IntKind} (ht : P.underlying t = some (.int k)) : NoSl P t := by
  intro Hh enc W spare held fuel cs x h
  obtain ⟨n, rfl, _, hw⟩ := DataW.trod_int ht h
  intro a l c hm; simp at hm
theorem flatten_snoc {α : Type} (l : List (List α)) (x : List α) : (l ++ [x]).flatten = l.flatten ++ x := by simp
theorem opA_slice {t e : TypeId} {α : Type} {d : Kn α} {G : α → Prop} {sz : Nat} (ht : P.underlying t = some (.slice e)) (hsz : P.cellsOf e = sz) (he : OpA P e d G) (hn : NoSl P e) :
    OpA P t (Kn.slice e sz d) (fun l => l.length ≤ maxLen ∧ ∀ x ∈ l, G x) := by
  intro Hh enc W spare held fuel cs x h hs m H R
  rcases open_slice ht h with ⟨rfl, _⟩ | ⟨a, len, cap, mm, n, D, Pl, rfl, _, hlc, hcm, hm, _, hel⟩
  · exact ⟨m, H, [.slice none 0 0], [], R, Sub.refl m, Fr.refl H, LRel.one (.flat _ rfl), Or.inl ⟨rfl, rfl⟩, by simp, fun x hx => by simp at hx⟩
  · have hlm : len ≤ mm := by rw [hm]; split <;> omega
    obtain ⟨hsp, c, te, fr, hb⟩ := hs a len cap (by simp)
    have hcell : ∀ i, i < mm → ∃ cs', cs' = (c.toList.drop (a.off + i * sz)).take sz ∧ cs'.length = sz ∧ DataW.trod enc P W 0 spare held n e cs' = some (D i, Pl i) := by
      intro i hi
      obtain ⟨cs', h1, h2⟩ := hel i hi
      obtain ⟨_, h3, h4⟩ := World.cells?_some h1
      rw [hsz] at h3 h4
      refine ⟨cs', ?_, h3, h2⟩
      apply List.ext_getElem?
      intro j
      by_cases hj : j < sz
      · rw [List.getElem?_take_of_lt hj, List.getElem?_drop, ← h4 j hj]
        have e1 : (a.add (i * sz)).add j = a.add (i * sz + j) := add_add _ _ _
        have e2 : (a.add (i * sz + j)).block = a.block ∧ (a.add (i * sz + j)).spot = none ∧ (a.add (i * sz + j)).off = a.off + (i * sz + j) := by
          unfold Addr.add
          by_cases h0 : i * sz + j = 0
          · rw [if_pos h0, h0]; exact ⟨rfl, hsp, rfl⟩
          · rw [if_neg h0]; exact ⟨rfl, rfl, rfl⟩
        rw [e1]
        unfold World.cell?
        rw [e2.1, hb]
        simp only [e2.2.1, e2.2.2]
        simp [Nat.add_assoc]
      · rw [List.getElem?_eq_none (by omega), List.getElem?_eq_none (by rw [List.length_take]; omega)]
    have key : ∀ q, q ≤ len → ∃ (m' : Mp) (H' : AH) (l : List α) (css : List (List Value)), Ro P W m' H' ∧ Sub m m' ∧ Fr H H' ∧ l.length = q ∧ css.length = q ∧ (∀ x ∈ l, G x) ∧ css.flatten.length = q * sz ∧ LRel m' css.flatten ((c.toList.drop a.off).take (q * sz)) ∧
        ∀ (i : Nat) (y : α) (c : List Value), l[i]? = some y → css[i]? = some c → c.length = sz ∧ d.K H' y c := by
      intro q
      induction q with
      | zero => exact fun _ => ⟨m, H, [], [], R, Sub.refl m, Fr.refl H, rfl, rfl, fun x hx => by simp at hx, by simp, by simpa using LRel.nil m, fun i y c h => by simp at h⟩
      | succ q ih =>
        intro hq
        obtain ⟨m1, H1, l, css, R1, s1, f1, hl, hcs, hG, hfl, hLR, hK⟩ := ih (by omega)
        obtain ⟨cs', e1, e2, e3⟩ := hcell q (by omega)
        obtain ⟨m2, H2, ds, y, R2, s2, f2, hLR2, hK2, hG2⟩ := he Hh enc W spare held n cs' _ e3 (hn Hh enc W spare held n cs' _ e3) m1 H1 R1
        refine ⟨m2, H2, l ++ [y], css ++ [ds], R2, s1.trans s2, f1.trans f2, by simp [hl], by simp [hcs], ?_, ?_, ?_, ?_⟩
        · intro x hx
          rcases List.mem_append.1 hx with hx | hx
          · exact hG x hx
          · simp at hx; subst hx; exact hG2
        · rw [flatten_snoc, List.length_append, hfl, hLR2.1, e2, Nat.succ_mul]
        · rw [flatten_snoc, Nat.succ_mul, List.take_add, List.drop_drop, ← e1]
          exact (hLR.mono s2).append hLR2
        · intro i y' c' h1 h2
          by_cases hi : i < q
          · rw [List.getElem?_append_left (by omega)] at h1 h2
            exact ⟨(hK i y' c' h1 h2).1, d.mono f2.mo (hK i y' c' h1 h2).2⟩
          · have hi2 := (List.getElem?_eq_some_iff.1 h1).1
            have : i = q := by simp [hl] at hi2; omega
            subst this
            rw [List.getElem?_append_right (by omega), hl, Nat.sub_self] at h1
            rw [List.getElem?_append_right (by omega), hcs, Nat.sub_self] at h2
            simp at h1 h2
            subst h1 h2
            exact ⟨by rw [hLR2.1, e2], hK2⟩
    obtain ⟨m1, H1, l, css, R1, s1, f1, hl, hcs, hG, hfl, hLR, hK⟩ := key len (Nat.le_refl _)
    obtain ⟨m2, s2, hm2, R2⟩ := R1.add (ks := css.flatten) (e := e) (base := a.off) hb (by rw [hfl]; exact hLR)
    have fnew : Fr H1 (mkB H1 css.flatten e .ro) := ⟨by rw [length_mkB]; omega, fun b hb => blk_mkB_old hb⟩
    refine ⟨m2, mkB H1 css.flatten e .ro, [sl H1.length 0 l.length (l.length + 1)], l, R2, s1.trans s2, f1.trans fnew, ?_, Or.inr ⟨H1.length, css, rfl, blk_mkB_new, by omega, fun i y c h1 h2 => ⟨(hK i y c h1 h2).1, d.mono fnew.mo (hK i y c h1 h2).2⟩⟩, by omega, hG⟩
    refine LRel.one ?_
    rw [hl]
    have ea : a = ⟨a.block, a.off, none⟩ := by rw [← hsp]
    rw [ea]
    exact .slice H1.length 0 a.off len (len + 1) cap ⟨a.block, a.off, .ro, 0, 0⟩ hm2 (by omega) hlc (.inl (by simp)) (fun h => (by cases h)) (fun h => (by cases h)) (fun _ => .inl (by omega))

/-- The fields of a struct from one on. -/
def OpFs (P : Program) (fs : List Field) (off tot : Nat) {α : Type} (d : Kn α) (G : α → Prop) : Prop :=
  ∀ (Hh : Type) (enc : TypeId × Value → Hh) (W : World) (spare : Nat → Bool) (held : Bool) (fuel : Nat) (cs : List Value),
    (∀ f ∈ fs, ∃ x, DataW.trod enc P W 0 spare held fuel f.type ((cs.drop f.offset).take (P.cellsOf f.type)) = some x) → cs.length = tot → SlOK W cs → ∀ (m : Mp) (H : AH), Ro P W m H →
    ∃ m' H' cs' a, Ro P W m' H' ∧ Sub m m' ∧ Fr H H' ∧ LRel m' cs' (cs.drop off) ∧ d.K H' a cs' ∧ G a
theorem opFs_nil {off : Nat} : OpFs P [] off off Kn.unit (fun _ => True) := by
  intro Hh enc W spare held fuel cs _ hl hs m H R
  refine ⟨m, H, [], (), R, Sub.refl m, Fr.refl H, ?_, rfl, trivial⟩
  rw [List.drop_eq_nil_of_le (by omega)]; exact LRel.nil m
theorem opFs_cons {f : Field} {fs : List Field} {off tot sz : Nat} {α β : Type} {a : Kn α} {b : Kn β} {G0 : α → Prop} {G1 : β → Prop} (ho : f.offset = off) (hc : P.cellsOf f.type = sz) (A : OpA P f.type a G0)
    (B : OpFs P fs (off + sz) tot b G1) : OpFs P (f :: fs) off tot (Kn.pair a b) (fun x => G0 x.1 ∧ G1 x.2) := by
  intro Hh enc W spare held fuel cs hf hl hs m H R
  obtain ⟨x, hx⟩ := hf f (by simp)
  rw [ho, hc] at hx
  obtain ⟨m1, H1, c1, y1, R1, s1, f1, l1, k1, g1⟩ := A Hh enc W spare held fuel _ x hx (fun a l c h => hs a l c (List.mem_of_mem_drop (List.mem_of_mem_take h))) m H R
  obtain ⟨m2, H2, c2, y2, R2, s2, f2, l2, k2, g2⟩ := B Hh enc W spare held fuel cs (fun g hg => hf g (by simp [hg])) hl hs m1 H1 R1
  refine ⟨m2, H2, c1 ++ c2, (y1, y2), R2, s1.trans s2, f1.trans f2, ?_, ⟨c1, c2, rfl, a.mono f2.mo k1, k2⟩, g1, g2⟩
  have := (l1.mono s2).append l2
  rw [← List.drop_drop, List.take_append_drop] at this
  exact this
theorem opA_struct {t : TypeId} {fs : List Field} {tot : Nat} {α : Type} {d : Kn α} {G : α → Prop} (ht : P.underlying t = some (.struct ⟨fs⟩)) (hc : P.cellsOf t = tot) (A : OpFs P fs 0 tot d G) : OpA P t d G := by
  intro Hh enc W spare held fuel cs x h hs m H R
  obtain ⟨xs, n, _, rfl, hl, hlen, hf⟩ := DataW.trod_struct ht h
  refine A Hh enc W spare held n cs (fun f hfm => ?_) (by rw [hl, hc]) hs m H R
  obtain ⟨i, hi, he⟩ := List.mem_iff_getElem.1 hfm
  have h1 := hf i f (by simp [← he, hi])
  rw [h1]
  have : i < xs.length := by rw [hlen]; simpa using hi
  exact ⟨_, List.getElem?_eq_getElem this⟩
theorem slOK_cell {W : World} {base : Nat} {u : TypeId} {a : Addr} {len cap : Nat} (h : Cell.okWide P W .any base u (.slice (some a) len cap)) : a.spot = none ∧ ∃ c e fr, W.heap[a.block]? = some (.cells c e fr) := by
  have hc : ∃ e n, W.has P .any base a e n := by
    unfold Cell.okWide at h
    cases hu : P.underlying u with
    | none => rw [hu] at h; simp [Cell.ok, hu] at h
    | some D =>
      rw [hu] at h
      cases D <;> simp [Cell.ok, hu] at h
      exact ⟨_, _, h.2.2⟩
  obtain ⟨e, n, hh⟩ := hc
  obtain ⟨_, h1, row, cells, h2, _⟩ := hh
  refine ⟨h1, ?_⟩
  unfold World.shape? at h2
  split at h2
  · rename_i c' e' fr' hb; exact ⟨c', e', fr', hb⟩
  · cases h2
theorem slOK_of {W : World} {base : Nat} {t : TypeId} {v : Value} (h : Value.okWide P W .any base t v) : SlOK W v.cells.toList := by
  intro a len cap hm
  have key : (∃ u, Cell.okWide P W .any base u (.slice (some a) len cap)) := by
    unfold Value.okWide at h
    split at h
    · obtain ⟨cs, rfl, _, ts, _, _, hr⟩ := h
      obtain ⟨i, hi⟩ := List.getElem?_of_mem hm
      obtain ⟨u, _, hu⟩ := hr i _ (by simpa [Value.cells] using hi)
      exact ⟨u, hu⟩
    · obtain ⟨cs, rfl, _, ts, _, _, hr⟩ := h
      obtain ⟨i, hi⟩ := List.getElem?_of_mem hm
      obtain ⟨u, _, hu⟩ := hr i _ (by simpa [Value.cells] using hi)
      exact ⟨u, hu⟩
    · cases v with
      | agg cs =>
        exfalso
        unfold Cell.okWide at h
        cases hu : P.underlying t with
        | none => rw [hu] at h; simp [Cell.ok, hu] at h
        | some D => rw [hu] at h; cases D <;> simp [Cell.ok, hu] at h
      | slice p l c =>
        simp [Value.cells] at hm
        obtain ⟨rfl, rfl, rfl⟩ := hm
        exact ⟨t, h⟩
      | _ => simp [Value.cells] at hm
  obtain ⟨u, hu⟩ := key
  exact slOK_cell hu
/-- An argument. -/
structure OpV (P : Program) (t : TypeId) {α : Type} (d : Kn α) (G : α → Prop) (KV : AH → α → Value → Prop) : Prop where
  op : OpA P t d G
  val : ∀ (W : World) (base : Nat) (v : Value), Value.okWide P W .any base t v → (∃ cs, v = .agg cs) ∧ (∀ H a cs, d.K H a cs → KV H a (.agg cs.toArray)) ∨ v.cells = #[v] ∧ (∀ H a v, d.K H a [v] → KV H a v)
  mono : ∀ {H H' : AH} {a : α} {v : Value}, Mo H H' → KV H a v → KV H' a v
def KvS {α : Type} (d : Kn α) (H : AH) (a : α) (v : Value) : Prop := ∃ cs, v = .agg cs.toArray ∧ d.K H a cs
def KvC {α : Type} (d : Kn α) (H : AH) (a : α) (v : Value) : Prop := d.K H a [v]
theorem opV_struct {t : TypeId} {fs : Array Field} {α : Type} {d : Kn α} {G : α → Prop} (ht : P.underlying t = some (.struct fs)) (A : OpA P t d G) : OpV P t d G (KvS d) := by
  refine ⟨A, fun W base v h => .inl ⟨?_, fun H a cs h => ⟨cs, rfl, h⟩⟩, fun hm ⟨cs, h1, h2⟩ => ⟨cs, h1, d.mono hm h2⟩⟩
  unfold Value.okWide at h
  rw [ht] at h
  obtain ⟨cs, rfl, _⟩ := h
  exact ⟨cs, rfl⟩
theorem opV_cell {t : TypeId} {D : TypeDesc} {α : Type} {d : Kn α} {G : α → Prop} (ht : P.underlying t = some D) (hD : (∀ fs, D ≠ .struct fs) ∧ ∀ n e, D ≠ .array n e) (A : OpA P t d G) : OpV P t d G (KvC d) := by
  refine ⟨A, fun W base v h => .inr ⟨?_, fun H a v h => h⟩, fun hm h => d.mono hm h⟩
  unfold Value.okWide at h
  rw [ht] at h
  have h' : Cell.okWide P W .any base t v := by
    cases D with
    | struct fs => exact absurd rfl (hD.1 fs)
    | array n e => exact absurd rfl (hD.2 n e)
    | _ => exact h
  cases v with
  | agg cs =>
    exfalso
    unfold Cell.okWide at h'
    rw [ht] at h'
    cases D <;> simp [Cell.ok, ht] at h'
  | _ => rfl
/-- All arguments. -/
structure OpAs (P : Program) (ts : List TypeId) {α : Type} (G : α → Prop) (KV : AH → α → List Value → Prop) : Prop where
  op : ∀ (Hh : Type) (enc : TypeId × Value → Hh) (W : World) (base : Nat) (spare : Nat → Bool) (held : Bool) (vs : List Value) (ds : List (DataW Hh)) (ps : List MemPlace),
    DataW.TrodAll enc P W 0 spare held ts vs ds ps → (∀ (j : Nat) t v, ts[j]? = some t → vs[j]? = some v → Value.okWide P W .any base t v) → ∀ (m : Mp) (H : AH), Ro P W m H →
    ∃ m' H' vs' a, Ro P W m' H' ∧ Sub m m' ∧ Fr H H' ∧ LRel m' vs' vs ∧ KV H' a vs' ∧ G a
  mono : ∀ {H H' : AH} {a : α} {vs : List Value}, Mo H H' → KV H a vs → KV H' a vs
theorem opAs_nil : OpAs P [] (fun _ : Unit => True) (fun _ _ vs => vs = []) := by
  refine ⟨?_, fun _ h => h⟩
  intro Hh enc W base spare held vs ds ps h _ m H R
  obtain ⟨rfl, rfl, rfl⟩ := trodAll_nil h
  exact ⟨m, H, [], (), R, Sub.refl m, Fr.refl H, LRel.nil m, rfl, trivial⟩
theorem opAs_cons {t : TypeId} {ts : List TypeId} {α β : Type} {d : Kn α} {G : α → Prop} {KV : AH → α → Value → Prop} {G' : β → Prop} {KV' : AH → β → List Value → Prop} (A : OpV P t d G KV) (B : OpAs P ts G' KV') :
    OpAs P (t :: ts) (fun x : α × β => G x.1 ∧ G' x.2) (fun H x vs => ∃ v vs', vs = v :: vs' ∧ KV H x.1 v ∧ KV' H x.2 vs') := by
  refine ⟨?_, fun hm ⟨v, vs', h1, h2, h3⟩ => ⟨v, vs', h1, A.mono hm h2, B.mono hm h3⟩⟩
  intro Hh enc W base spare held vs ds ps h hv m H R
  obtain ⟨v, vs', d0, ds', p, q, rfl, rfl, rfl, ⟨fuel, h0⟩, hr⟩ := trodAll_cons h
  have hok := hv 0 t v rfl rfl
  obtain ⟨m2, H2, us, y2, R2, s2, f2, l2, k2, g2⟩ := B.op Hh enc W base spare held vs' ds' q hr (fun j t' v' h1 h2 => hv (j + 1) t' v' h1 h2) m H R
  obtain ⟨m1, H1, cs', y1, R1, s1, f1, l1, k1, g1⟩ := A.op Hh enc W spare held fuel _ _ h0 (slOK_of hok) m2 H2 R2
  rcases A.val W base v hok with ⟨⟨cs, rfl⟩, hk⟩ | ⟨hc, hk⟩
  · exact ⟨m1, H1, .agg cs'.toArray :: us, (y1, y2), R1, s2.trans s1, f2.trans f1, LRel.cons (VRel.aggL (by simpa [Value.cells] using l1)) (l2.mono s1), ⟨_, _, rfl, hk _ _ _ k1, B.mono f1.mo k2⟩, g1, g2⟩
  · rw [hc] at l1
    obtain ⟨x, rfl⟩ : ∃ x, cs' = [x] := List.length_eq_one_iff.1 l1.1
    exact ⟨m1, H1, x :: us, (y1, y2), R1, s2.trans s1, f2.trans f1, LRel.cons (l1.2 0 x v rfl rfl) (l2.mono s1), ⟨_, _, rfl, hk _ _ _ k1, B.mono f1.mo k2⟩, g1, g2⟩
/-- Behind a call: nothing that was there is another. -/
theorem walk_of {W : World} {f : FuncId} {args vs : List Value} {m : Mp} {H H' : AH} {v : Value} {call : CallF} (hc : CallOK P call) (R : Ro P W m H) (hl : LRel m args vs) (h : call f args H = some (v, H')) (hf : flat1 v = true) :
    Calls P f vs.toArray W fun e W' => e = .returned v ∧ Below W.heap.size W W' := by
  refine ((hc f args H v H' h).2 W.heap.size W m W vs R.rel hl).mono fun e w' ⟨m', v', he, hv, hr, _⟩ => ?_
  rw [VRel.flat_inv hf hv] at he
  exact ⟨he, hr.below⟩
end Go.AM
set_option linter.unusedVariables false
set_option linter.unusedSimpArgs false
set_option maxRecDepth 100000
namespace Go.AM.Y
open Go Go.AM Go.Proofs
attribute [local irreducible] run bin un ld st box newV mkS fldA fld ixA ix slc slc3 build buildS cv cvS ap cpy lenV gOp pickV b2 aIf aChk evalK resume iterD Option.bind

theorem gv_ok : GivenOK Try.prog gv := fun f g h => by cases h
abbrev KDy := Kn.pair (Kn.pair Kn.bool (Kn.pair (Kn.slice 67 1 (Kn.int .u32)) Kn.unit)) (Kn.pair (Kn.int .i64) Kn.unit)
abbrev GDy (x : (Bool × List Int × Unit) × Int × Unit) : Prop := (True ∧ (x.1.2.1.length ≤ maxLen ∧ ∀ n ∈ x.1.2.1, (Lit.int .u32 n).wf = true) ∧ True) ∧ (Lit.int .i64 x.2.1).wf = true ∧ True
def dyOf (x : (Bool × List Int × Unit) × Int × Unit) : Dy := ⟨x.1.1, x.1.2.1.map Int.toNat, x.2.1⟩
theorem wf_i64 {n : Int} (h : (Lit.int .i64 n).wf = true) : -9223372036854775808 ≤ n ∧ n < 9223372036854775808 := by
  simp [Lit.wf, IntKind.min, IntKind.max, IntKind.bits, IntKind.signed] at h; omega
theorem wf_u32 {n : Int} (h : (Lit.int .u32 n).wf = true) : 0 ≤ n ∧ n < 4294967296 := by
  simp [Lit.wf, IntKind.min, IntKind.max, IntKind.bits, IntKind.signed] at h; omega
theorem rd_slice {H : AH} {l : List Int} {m : Value} (h : (Kn.slice 67 1 (Kn.int .u32)).K H l [m]) (hw : ∀ n ∈ l, (Lit.int .u32 n).wf = true) : RdN H m (l.map Int.toNat) := by
  have hsm : small (l.map Int.toNat) := by
    intro x hx
    obtain ⟨n, hn, rfl⟩ := List.mem_map.mp hx
    have := wf_u32 (hw n hn); omega
  rcases h with ⟨h1, rfl⟩ | ⟨b, css, h1, h2, h3, h4⟩
  · cases h1; exact RdN.nil
  · cases h1
    refine ⟨.inr ⟨b, 0, l.length + 1, by simp, by simp, ?_⟩, hsm⟩
    by_cases hn : l = []
    · left; rw [hn]; rfl
    · right
      refine ⟨_, h2, ?_⟩
      have e : css.flatten = (l.map Int.toNat).map u32 := by
        have : css = l.map fun n => [Value.int .u32 n] := by
          apply List.ext_getElem?
          intro i
          by_cases hi : i < l.length
          · rw [List.getElem?_map, List.getElem?_eq_getElem hi, List.getElem?_eq_getElem (by omega)]
            have := (h4 i _ _ (List.getElem?_eq_getElem hi) (List.getElem?_eq_getElem (by omega))).2
            exact congrArg some this
          · rw [List.getElem?_eq_none (by omega), List.getElem?_eq_none (by simp; omega)]
        rw [this, List.map_map]
        clear this h2 h3 h4 hn hsm
        induction l with
        | nil => rfl
        | cons a l ih =>
          have := wf_u32 (hw a (by simp))
          simp only [List.map_cons, List.flatten_cons, List.cons_append, List.nil_append, Function.comp]
          rw [ih (fun n hn => hw n (by simp [hn]))]
          congr 2
          show a = ((a.toNat : Nat) : Int)
          omega
      rw [e]
      simp [rdN, List.take_of_length_le]
theorem dy_open {H : AH} {v : Value} {x : (Bool × List Int × Unit) × Int × Unit} (h : KvS KDy H x v) (hG : GDy x) : DyV H v (dyOf x) ∧ (dyOf x).mag.length < 9223372036854775808 ∧ (-9223372036854775808 ≤ (dyOf x).e ∧ (dyOf x).e < 9223372036854775808) := by
  obtain ⟨cs, rfl, c1, c2, rfl, ⟨c3, c4, rfl, h1, c5, c6, rfl, h2, h3⟩, c7, c8, rfl, h4, h5⟩ := h
  obtain ⟨⟨_, ⟨g1, g2⟩, _⟩, g3, _⟩ := hG
  have h1 : c3 = [.bool x.1.1] := h1
  have h3 : c6 = [] := h3
  have h4 : c7 = [.int .i64 x.2.1] := h4
  have h5 : c8 = [] := h5
  subst h1 h3 h4 h5
  have hl : c5.length = 1 := by
    rcases h2 with ⟨e, _⟩ | ⟨b, css, e, _⟩ <;> rw [e] <;> rfl
  obtain ⟨m, rfl⟩ := List.length_eq_one_iff.mp hl
  refine ⟨⟨m, rfl, rd_slice h2 g2⟩, ?_, wf_i64 g3⟩
  have : maxLen = 9223372036854775807 := by decide
  simp [dyOf]; omega
end Go.AM.Y
set_option linter.unusedVariables false
set_option linter.unusedSimpArgs false
set_option maxRecDepth 100000
namespace Go.AM.Y
open Go Go.AM Go.Proofs
attribute [local irreducible] run bin un ld st box newV mkS fldA fld ixA ix slc slc3 build buildS cv cvS ap cpy lenV gOp pickV b2 aIf aChk evalK resume iterD Option.bind

abbrev Dc (X E : Int) (m : Value) : Value := .agg #[.bool (canon X E).neg, m, .int .i64 (canon X E).e]
def ResC (B : AH) (v : Value) (X E : Int) : Prop := ∃ m, v = .tuple #[Dc X E m, .int .i64 0] ∧ RdN B m (canon X E).mag
section
variable {B H : AH} {X Y E F : Int} {m m2 : Value}
theorem ResV.c {v : Value} {r : Dy × Int} (h : ResV B v r.1 r.2) (e : r = (canon X E, 0)) : ResC B v X E := by
  subst e
  obtain ⟨x, rfl, m, rfl, hr⟩ := h
  exact ⟨m, rfl, hr⟩
theorem An.imp {Post Post' : AH → Value → Prop} {g : Nat → Nat → Option (Value × AH)} (h : Ev g (An B H Post)) (hp : ∀ B' v, Post B' v → Post' B' v) : Ev g (An B H Post') :=
  h.mono fun r ⟨B', h1, h2, h3, h4⟩ => ⟨B', h1, h2, h3, hp B' r.1 h4⟩
theorem An.tt {B H : AH} {g : Nat → Nat → Option (Value × AH)} (h : Ev g (An B H fun _ v => v = .bool true)) : Ev g (fun r => r.1 = .bool true) := h.mono fun r ⟨_, _, _, _, e⟩ => e
end
end Go.AM.Y
set_option linter.unusedVariables false
set_option linter.unusedSimpArgs false
set_option maxRecDepth 100000
namespace Go.AM.Y
open Go Go.AM Go.Proofs
attribute [local irreducible] run bin un ld st box newV mkS fldA fld ixA ix slc slc3 build buildS cv cvS ap cpy lenV gOp pickV b2 aIf aChk evalK resume iterD Option.bind

theorem rdRight_spec {B H : AH} {d : Dy} {v : Value} (hl : d.mag.length < 9223372036854775808) (ha : DyV B v d) (hL : Le B H) : Ev (fun k _ => rn k 49 [v] H) (An B H fun _ v => v = .bool (rightD d)) := by
  refine Ev.fn (fun k => f49_eq k _ H) ?_
  obtain ⟨m, rfl, hm⟩ := ha
  have hS := St.start hL
  unfold rightD
  repeat (first | refine Ev.s ?_ | refine Ev.newC fun _ _ _ => ?_ | refine Ev.boxC fun _ _ _ => ?_ | refine Ev.stC fun _ _ => ?_ | refine Ev.sc (by omega) ?_ | refine Ev.scg (by omega) ?_)
  refine Ev.callD (rRight_spec (xs := d.mag) hl) fun v1 B1 H1 hm1 hS1 e1 => ?_
  subst e1
  have hm := hm.mono hm1.mo
  cases hr : rightI d.neg d.mag with
  | false =>
    repeat (first | refine Ev.s ?_ | refine Ev.newC fun _ _ _ => ?_ | refine Ev.boxC fun _ _ _ => ?_ | refine Ev.stC fun _ _ => ?_ | refine Ev.sc (by omega) ?_ | refine Ev.scg (by omega) ?_)
    exact Ev.doneC rfl
  | true =>
    repeat (first | refine Ev.s ?_ | refine Ev.newC fun _ _ _ => ?_ | refine Ev.boxC fun _ _ _ => ?_ | refine Ev.stC fun _ _ => ?_ | refine Ev.sc (by omega) ?_ | refine Ev.scg (by omega) ?_)
    by_cases h : d.mag.length = 0
    · rw [decide_eq_true h]
      repeat (first | refine Ev.s ?_ | refine Ev.newC fun _ _ _ => ?_ | refine Ev.boxC fun _ _ _ => ?_ | refine Ev.stC fun _ _ => ?_ | refine Ev.sc (by omega) ?_ | refine Ev.scg (by omega) ?_)
      exact Ev.doneC (by simp [h])
    rw [decide_eq_false h]
    repeat (first | refine Ev.s ?_ | refine Ev.newC fun _ _ _ => ?_ | refine Ev.boxC fun _ _ _ => ?_ | refine Ev.stC fun _ _ => ?_ | refine Ev.sc (by omega) ?_ | refine Ev.scg (by omega) ?_)
    refine Ev.ixC 0 rfl (by omega) fun p hp => ?_
    repeat (first | refine Ev.s ?_ | refine Ev.newC fun _ _ _ => ?_ | refine Ev.boxC fun _ _ _ => ?_ | refine Ev.stC fun _ _ => ?_ | refine Ev.sc (by omega) ?_ | refine Ev.scg (by omega) ?_)
    by_cases h2 : d.mag.getD 0 0 % 2 = 1
    · rw [decide_eq_true h2]
      repeat (first | refine Ev.s ?_ | refine Ev.newC fun _ _ _ => ?_ | refine Ev.boxC fun _ _ _ => ?_ | refine Ev.stC fun _ _ => ?_ | refine Ev.sc (by omega) ?_ | refine Ev.scg (by omega) ?_)
      by_cases h3 : -131072 ≤ d.e
      · rw [decide_eq_true h3]
        repeat (first | refine Ev.s ?_ | refine Ev.newC fun _ _ _ => ?_ | refine Ev.boxC fun _ _ _ => ?_ | refine Ev.stC fun _ _ => ?_ | refine Ev.sc (by omega) ?_ | refine Ev.scg (by omega) ?_)
        exact Ev.doneC (by simp only [if_neg h, h2, h3, true_and, Bool.true_and])
      · rw [decide_eq_false h3]
        repeat (first | refine Ev.s ?_ | refine Ev.newC fun _ _ _ => ?_ | refine Ev.boxC fun _ _ _ => ?_ | refine Ev.stC fun _ _ => ?_ | refine Ev.sc (by omega) ?_ | refine Ev.scg (by omega) ?_)
        exact Ev.doneC (by simp only [if_neg h, h3, false_and, and_false, decide_false, Bool.and_false])
    · rw [decide_eq_false h2]
      repeat (first | refine Ev.s ?_ | refine Ev.newC fun _ _ _ => ?_ | refine Ev.boxC fun _ _ _ => ?_ | refine Ev.stC fun _ _ => ?_ | refine Ev.sc (by omega) ?_ | refine Ev.scg (by omega) ?_)
      exact Ev.doneC (by simp only [if_neg h, h2, false_and, decide_false, Bool.and_false])
theorem rdsize_spec {B H : AH} {d : Dy} {v : Value} (hf : Fit d) (ha : DyV B v d) (hL : Le B H) : Ev (fun k _ => rn k 91 [v] H) (An B H fun _ v => v = .int .i64 (d.e + nbits (val d.mag))) := by
  refine Ev.fn (fun k => f91_eq k _ H) ?_
  obtain ⟨m, rfl, hm⟩ := ha
  have hS := St.start hL
  have h1 := hf.len
  have h2 := hf.lo
  have h3 := hf.hi
  have h4 := nbits_val hm.sm
  repeat (first | refine Ev.s ?_ | refine Ev.newC fun _ _ _ => ?_ | refine Ev.boxC fun _ _ _ => ?_ | refine Ev.stC fun _ _ => ?_ | refine Ev.sc (by omega) ?_ | refine Ev.scg (by omega) ?_)
  refine Ev.callD (rBits_spec (xs := d.mag) (by omega)) fun v1 B1 H1 hm1 hS1 e1 => ?_
  subst e1
  repeat (first | refine Ev.s ?_ | refine Ev.newC fun _ _ _ => ?_ | refine Ev.boxC fun _ _ _ => ?_ | refine Ev.stC fun _ _ => ?_ | refine Ev.sc (by omega) ?_ | refine Ev.scg (by omega) ?_)
  exact Ev.doneC rfl
theorem rinRange_spec {B H : AH} {d : Dy} {v : Value} (hf : Fit d) (ha : DyV B v d) (hL : Le B H) : Ev (fun k _ => rn k 88 [v] H) (An B H fun _ v => v = .bool (inRangeD d)) := by
  refine Ev.fn (fun k => f88_eq k _ H) ?_
  have ha' := ha
  obtain ⟨m, rfl, hm⟩ := ha
  have hS := St.start hL
  have h1 := hf.len
  unfold inRangeD
  repeat (first | refine Ev.s ?_ | refine Ev.newC fun _ _ _ => ?_ | refine Ev.boxC fun _ _ _ => ?_ | refine Ev.stC fun _ _ => ?_ | refine Ev.sc (by omega) ?_ | refine Ev.scg (by omega) ?_)
  by_cases h : d.mag.length = 0
  · rw [decide_eq_true h]
    repeat (first | refine Ev.s ?_ | refine Ev.newC fun _ _ _ => ?_ | refine Ev.boxC fun _ _ _ => ?_ | refine Ev.stC fun _ _ => ?_ | refine Ev.sc (by omega) ?_ | refine Ev.scg (by omega) ?_)
    exact Ev.doneC (by simp [h])
  rw [decide_eq_false h]
  repeat (first | refine Ev.s ?_ | refine Ev.newC fun _ _ _ => ?_ | refine Ev.boxC fun _ _ _ => ?_ | refine Ev.stC fun _ _ => ?_ | refine Ev.sc (by omega) ?_ | refine Ev.scg (by omega) ?_)
  refine Ev.callD (rdsize_spec hf ha') fun v2 B2 H2 hm2 hS2 e2 => ?_
  subst e2
  repeat (first | refine Ev.s ?_ | refine Ev.newC fun _ _ _ => ?_ | refine Ev.boxC fun _ _ _ => ?_ | refine Ev.stC fun _ _ => ?_ | refine Ev.sc (by omega) ?_ | refine Ev.scg (by omega) ?_)
  by_cases c1 : (-65536 : Int) ≤ d.e + (nbits (val d.mag) : Int)
  · rw [decide_eq_true c1]
    repeat (first | refine Ev.s ?_ | refine Ev.newC fun _ _ _ => ?_ | refine Ev.boxC fun _ _ _ => ?_ | refine Ev.stC fun _ _ => ?_ | refine Ev.sc (by omega) ?_ | refine Ev.scg (by omega) ?_)
    by_cases c2 : d.e + (nbits (val d.mag) : Int) ≤ 65536
    · rw [decide_eq_true c2]
      repeat (first | refine Ev.s ?_ | refine Ev.newC fun _ _ _ => ?_ | refine Ev.boxC fun _ _ _ => ?_ | refine Ev.stC fun _ _ => ?_ | refine Ev.sc (by omega) ?_ | refine Ev.scg (by omega) ?_)
      by_cases c3 : (-131072 : Int) ≤ d.e
      · rw [decide_eq_true c3]
        repeat (first | refine Ev.s ?_ | refine Ev.newC fun _ _ _ => ?_ | refine Ev.boxC fun _ _ _ => ?_ | refine Ev.stC fun _ _ => ?_ | refine Ev.sc (by omega) ?_ | refine Ev.scg (by omega) ?_)
        by_cases c4 : d.e ≤ 131072
        · rw [decide_eq_true c4]
          repeat (first | refine Ev.s ?_ | refine Ev.newC fun _ _ _ => ?_ | refine Ev.boxC fun _ _ _ => ?_ | refine Ev.stC fun _ _ => ?_ | refine Ev.sc (by omega) ?_ | refine Ev.scg (by omega) ?_)
          refine Ev.callD (rBits_spec (xs := d.mag) (by omega)) fun v3 B3 H3 hm3 hS3 e3 => ?_
          subst e3
          repeat (first | refine Ev.s ?_ | refine Ev.newC fun _ _ _ => ?_ | refine Ev.boxC fun _ _ _ => ?_ | refine Ev.stC fun _ _ => ?_ | refine Ev.sc (by omega) ?_ | refine Ev.scg (by omega) ?_)
          exact Ev.doneC (by simp [h, c1, c2, c3, c4])
        · rw [decide_eq_false c4]
          repeat (first | refine Ev.s ?_ | refine Ev.newC fun _ _ _ => ?_ | refine Ev.boxC fun _ _ _ => ?_ | refine Ev.stC fun _ _ => ?_ | refine Ev.sc (by omega) ?_ | refine Ev.scg (by omega) ?_)
          exact Ev.doneC (by simp [h, c4])
      · rw [decide_eq_false c3]
        repeat (first | refine Ev.s ?_ | refine Ev.newC fun _ _ _ => ?_ | refine Ev.boxC fun _ _ _ => ?_ | refine Ev.stC fun _ _ => ?_ | refine Ev.sc (by omega) ?_ | refine Ev.scg (by omega) ?_)
        exact Ev.doneC (by simp [h, c3])
    · rw [decide_eq_false c2]
      repeat (first | refine Ev.s ?_ | refine Ev.newC fun _ _ _ => ?_ | refine Ev.boxC fun _ _ _ => ?_ | refine Ev.stC fun _ _ => ?_ | refine Ev.sc (by omega) ?_ | refine Ev.scg (by omega) ?_)
      exact Ev.doneC (by simp [h, c2])
  · rw [decide_eq_false c1]
    repeat (first | refine Ev.s ?_ | refine Ev.newC fun _ _ _ => ?_ | refine Ev.boxC fun _ _ _ => ?_ | refine Ev.stC fun _ _ => ?_ | refine Ev.sc (by omega) ?_ | refine Ev.scg (by omega) ?_)
    exact Ev.doneC (by simp [h, c1])
theorem rnorm_loop {H0 B0 : AH} {L : List (Nat × Blk)} {q : Nat} {nv m ev rs : Value} {n : Nat} (hl : (limbs n).length < 34359738368) (hnb : nbits n < 4611686018427387904) :
    ∀ (c j : Nat) (B H : AH), j + c = nbits n → (∀ t, t < j → n.testBit t = false) → (∃ t, t < nbits n ∧ n.testBit t = true) → St H0 B0 B L H → InL q ⟨[nv, m], 24, .fix⟩ L → RdN B m (limbs n) →
    Ev (fun k l => f76_L0 k ev rs (ptr q 0) (i64 j) l H) (fun o => o = (.exit 0, f76_X_L0 ev rs (ptr q 0) (i64 (ctz n)), H)) := by
  intro c
  induction c with
  | zero =>
    intro j B H hj hz ⟨t, ht, hne⟩ _ _ _
    rw [hz t (by omega)] at hne; cases hne
  | succ c ih =>
    intro j B H hj hz hex hS hq hx
    refine Ev.succ (fun k l => f76_L0_succ k _ _ _ _ l H) ?_
    repeat (first | refine Ev.s ?_ | refine Ev.newC fun _ _ _ => ?_ | refine Ev.boxC fun _ _ _ => ?_ | refine Ev.stC fun _ _ => ?_ | refine Ev.sc (by omega) ?_ | refine Ev.scg (by omega) ?_)
    refine Ev.callU (rBit_spec (xs := limbs n) (i := j) (by omega) (by omega) (St.lel hS)) ?_
    rintro _ rfl
    rw [val_limbs]
    cases hb : n.testBit j with
    | true =>
      repeat (first | refine Ev.s ?_ | refine Ev.newC fun _ _ _ => ?_ | refine Ev.boxC fun _ _ _ => ?_ | refine Ev.stC fun _ _ => ?_ | refine Ev.sc (by omega) ?_ | refine Ev.scg (by omega) ?_)
      rw [ctz_of hz hb]
      exact Ev.ret rfl
    | false =>
      repeat (first | refine Ev.s ?_ | refine Ev.newC fun _ _ _ => ?_ | refine Ev.boxC fun _ _ _ => ?_ | refine Ev.stC fun _ _ => ?_ | refine Ev.sc (by omega) ?_ | refine Ev.scg (by omega) ?_)
      refine ih (j + 1) B H (by omega) (fun t ht => ?_) hex hS hq hx
      by_cases e : t < j
      · exact hz t e
      · rw [show t = j by omega]; exact hb
theorem rnorm_spec {B H : AH} {xs : List Nat} {m : Value} {neg : Bool} {e : Int} (hl : xs.length < 34359738368) (he : -4611686018427387904 ≤ e ∧ e < 4611686018427387904) [ha : RdT B m xs] (hL : Le B H) :
    Ev (fun k _ => rn k 76 [.agg #[.bool neg, m], .int .i64 e] H) (An B H fun B' v => DyV B' v (canon (sg neg (val xs)) e)) := by
  refine Ev.fn (fun k => f76_eq k _ _ H) ?_
  have hS := St.start hL
  have ha := ha.rd
  have h32 := nbits_val ha.sm
  have hl1 := limbs_length_le (val_lt ha.sm)
  repeat (first | refine Ev.s ?_ | refine Ev.newC fun _ _ _ => ?_ | refine Ev.boxC fun _ _ _ => ?_ | refine Ev.stC fun _ _ => ?_ | refine Ev.sc (by omega) ?_ | refine Ev.scg (by omega) ?_)
  refine Ev.callD (rMake_spec (xs := xs) (by omega)) fun w B1 H1 hm1 hS1 h1 => ?_
  obtain ⟨w, rfl, hw⟩ := h1
  rw [sg_abs] at hw
  generalize val xs = n at *
  have hsgn : decide (sg neg n < 0) = (neg && decide (n ≠ 0)) := sg_neg.symm
  repeat (first | refine Ev.s ?_ | refine Ev.newC fun _ _ _ => ?_ | refine Ev.boxC fun _ _ _ => ?_ | refine Ev.stC fun _ _ => ?_ | refine Ev.sc (by omega) ?_ | refine Ev.scg (by omega) ?_)
  by_cases h0 : n = 0
  · subst h0
    rw [decide_eq_true (by rw [limbs_zero]; rfl)]
    repeat (first | refine Ev.s ?_ | refine Ev.newC fun _ _ _ => ?_ | refine Ev.boxC fun _ _ _ => ?_ | refine Ev.stC fun _ _ => ?_ | refine Ev.sc (by omega) ?_ | refine Ev.scg (by omega) ?_)
    refine Ev.doneC ?_
    have : canon (sg neg 0) e = zeroDy := by unfold canon; rw [if_pos (by cases neg <;> rfl)]
    rw [this]
    exact zeroDyV
  have hne : (limbs n).length ≠ 0 := fun h => h0 (limbs_eq_nil.mp (List.length_eq_zero_iff.mp h))
  rw [decide_eq_false hne]
  repeat (first | refine Ev.s ?_ | refine Ev.newC fun _ _ _ => ?_ | refine Ev.boxC fun _ _ _ => ?_ | refine Ev.stC fun _ _ => ?_ | refine Ev.sc (by omega) ?_ | refine Ev.scg (by omega) ?_)
  have hc := ctz_le_nbits h0
  have hb : n.testBit (ctz n) = true := by
    have h1 := (ctz_spec h0).2
    rw [Nat.testBit_eq_decide_div_mod_eq, h1]; rfl
  refine Ev.bind (Ev.loop (rnorm_loop (n := n) (by omega) (by omega) (nbits n) 0 B1 _ (by omega) (fun t ht => absurd ht (by omega)) ⟨ctz n, hc, hb⟩ (by assumption) inferInstance hw)) ?_
  rintro _ rfl
  refine Ev.eq (fun k _ => f76_A0_x0 k _ _ _ _ _) ?_
  repeat (first | refine Ev.s ?_ | refine Ev.newC fun _ _ _ => ?_ | refine Ev.boxC fun _ _ _ => ?_ | refine Ev.stC fun _ _ => ?_ | refine Ev.sc (by omega) ?_ | refine Ev.scg (by omega) ?_)
  refine Ev.callD (rShr_spec (xs := limbs n) (n := ctz n) (by omega) (by omega)) fun v2 B2 H2 hm2 hS2 h2 => ?_
  rw [val_limbs] at h2
  have hle : (limbs (n / 2 ^ ctz n)).length ≤ (limbs n).length := limbs_length_mono (Nat.div_le_self _ _)
  repeat (first | refine Ev.s ?_ | refine Ev.newC fun _ _ _ => ?_ | refine Ev.boxC fun _ _ _ => ?_ | refine Ev.stC fun _ _ => ?_ | refine Ev.sc (by omega) ?_ | refine Ev.scg (by omega) ?_)
  refine Ev.callD (rMake_spec (xs := limbs (n / 2 ^ ctz n)) (by omega)) fun v3 B3 H3 hm3 hS3 h3 => ?_
  rw [val_limbs] at h3
  have hq : n / 2 ^ ctz n ≠ 0 := by have := (ctz_spec h0).2; generalize n / 2 ^ ctz n = q at this; omega
  have hsg : ¬ sg neg n = 0 := by unfold sg; cases neg <;> simp <;> omega
  have hn2 : decide (sg neg n < 0) = neg := by rw [hsgn, decide_eq_true h0, Bool.and_true]
  rw [hn2] at h3
  obtain ⟨m3, rfl, hr3⟩ := h3
  rw [sg_abs] at hr3
  repeat (first | refine Ev.s ?_ | refine Ev.newC fun _ _ _ => ?_ | refine Ev.boxC fun _ _ _ => ?_ | refine Ev.stC fun _ _ => ?_ | refine Ev.sc (by omega) ?_ | refine Ev.scg (by omega) ?_)
  refine Ev.doneC ?_
  have : canon (sg neg n) e = ⟨decide (sg neg (n / 2 ^ ctz n) < 0), limbs (n / 2 ^ ctz n), e + ctz n⟩ := by
    unfold canon; rw [if_neg hsg, sg_abs, ← sg_neg, ← sg_neg, decide_eq_true h0, decide_eq_true hq]
  rw [this]
  exact ⟨m3, rfl, hr3⟩
theorem rtold_spec {B H : AH} {d : Dy} {v : Value} (hf : Fit d) (ha : DyV B v d) (hL : Le B H) : Ev (fun k _ => rn k 61 [v] H) (An B H fun B' v => ResV B' v (toldR 0 d).1 (toldR 0 d).2) := by
  refine Ev.fn (fun k => f61_eq k _ H) ?_
  have ha' := ha
  obtain ⟨m, rfl, hm⟩ := ha
  have hS := St.start hL
  unfold toldR
  rw [if_neg (by decide)]
  repeat (first | refine Ev.s ?_ | refine Ev.newC fun _ _ _ => ?_ | refine Ev.boxC fun _ _ _ => ?_ | refine Ev.stC fun _ _ => ?_ | refine Ev.sc (by omega) ?_ | refine Ev.scg (by omega) ?_)
  refine Ev.callD (rinRange_spec hf ha') fun v1 B1 H1 hm1 hS1 e1 => ?_
  subst e1
  have hm := hm.mono hm1.mo
  cases hr : inRangeD d with
  | true =>
    repeat (first | refine Ev.s ?_ | refine Ev.newC fun _ _ _ => ?_ | refine Ev.boxC fun _ _ _ => ?_ | refine Ev.stC fun _ _ => ?_ | refine Ev.sc (by omega) ?_ | refine Ev.scg (by omega) ?_)
    exact Ev.doneC ⟨_, rfl, m, rfl, hm⟩
  | false =>
    repeat (first | refine Ev.s ?_ | refine Ev.newC fun _ _ _ => ?_ | refine Ev.boxC fun _ _ _ => ?_ | refine Ev.stC fun _ _ => ?_ | refine Ev.sc (by omega) ?_ | refine Ev.scg (by omega) ?_)
    exact Ev.doneC ⟨_, rfl, zeroDyV⟩
end Go.AM.Y
set_option linter.unusedVariables false
set_option linter.unusedSimpArgs false
set_option maxRecDepth 100000
namespace Go.AM.Y
open Go Go.AM Go.Proofs
attribute [local irreducible] run bin un ld st box newV mkS fldA fld ixA ix slc slc3 build buildS cv cvS ap cpy lenV gOp pickV b2 aIf aChk evalK resume iterD Option.bind

theorem sh_fact {r x : Nat} (hr : r < 4294967296) (hx : x < 4294967296) : r * 2 ^ 32 < 18446744073709551616 ∧ x < 18446744073709551616 ∧ x + r * 2 ^ 32 = r * 4294967296 + x ∧ r * 4294967296 + x < 18446744073709551616 := by
  refine ⟨?_, ?_, ?_, ?_⟩ <;> omega
theorem hb_fact {r x d : Nat} (hr : r < d) (hx : x < 4294967296) : r * 4294967296 + x < d * 4294967296 := by
  generalize hB : 4294967296 = B at *
  have h : (r + 1) * B ≤ d * B := Nat.mul_le_mul_right _ hr
  rw [Nat.add_mul, Nat.one_mul] at h
  omega
theorem rshort_loop {H0 B0 B : AH} {xs : List Nat} {a : Value} {bo d : Nat} (ha : RdN B a xs) (hd : d < 4294967296) (hlen : xs.length < 1000000) :
    ∀ (m : Nat) (zs : List Nat) (r : Nat) (H : AH), m ≤ xs.length → zs.length = xs.length → small zs → r < d → val (xs.drop m) = d * val (zs.drop m) + r →
    St H0 B0 B [(bo, ⟨zs.map u32, 67, .fix⟩)] H →
    Ev (fun k n => f116_L0 k a (u64 d) (sl bo 0 xs.length xs.length) (u64 r) (.int .i64 ((m : Int) - 1)) n H)
      (fun o => ∃ zs r H, o = (.exit 0, f116_X_L0 (sl bo 0 xs.length xs.length) (u64 r), H) ∧ zs.length = xs.length ∧ small zs ∧ r < d ∧ val xs = d * val zs + r ∧ St H0 B0 B [(bo, ⟨zs.map u32, 67, .fix⟩)] H) := by
  intro m
  induction m with
  | zero =>
    intro zs r H hm hz hsm hr hv hS
    refine Ev.succ (fun k n => f116_L0_succ k _ _ _ _ _ n H) ?_
    repeat (first | refine Ev.s ?_ | refine Ev.newC fun _ _ _ => ?_ | refine Ev.boxC fun _ _ _ => ?_ | refine Ev.stC fun _ _ => ?_ | refine Ev.sc (by omega) ?_ | refine Ev.scg (by omega) ?_)
    rw [decide_eq_false (by omega)]
    repeat (first | refine Ev.s ?_ | refine Ev.newC fun _ _ _ => ?_ | refine Ev.boxC fun _ _ _ => ?_ | refine Ev.stC fun _ _ => ?_ | refine Ev.sc (by omega) ?_ | refine Ev.scg (by omega) ?_)
    exact Ev.ret ⟨zs, r, H, rfl, hz, hsm, hr, hv, hS⟩
  | succ m ih =>
    intro zs r H hm hz hsm hr hv hS
    refine Ev.succ (fun k n => f116_L0_succ k _ _ _ _ _ n H) ?_
    have e : ((m + 1 : Nat) : Int) - 1 = (m : Int) := by omega
    rw [e]
    have hx := ha.sm.getD m
    obtain ⟨f1, f2, f3, f4⟩ := sh_fact (r := r) (x := xs.getD m 0) (Nat.lt_trans hr hd) hx
    repeat (first | refine Ev.s ?_ | refine Ev.newC fun _ _ _ => ?_ | refine Ev.boxC fun _ _ _ => ?_ | refine Ev.stC fun _ _ => ?_ | refine Ev.sc (by omega) ?_ | refine Ev.scg (by omega) ?_)
    rw [decide_eq_true (by omega)]
    repeat (first | refine Ev.s ?_ | refine Ev.newC fun _ _ _ => ?_ | refine Ev.boxC fun _ _ _ => ?_ | refine Ev.stC fun _ _ => ?_ | refine Ev.sc (by omega) ?_ | refine Ev.scg (by omega) ?_)
    refine Ev.prim (shlQL ⟨by decide, f1⟩) ?_
    refine Ev.ixC m rfl (by omega) fun p hp => ?_
    repeat (first | refine Ev.s ?_ | refine Ev.newC fun _ _ _ => ?_ | refine Ev.boxC fun _ _ _ => ?_ | refine Ev.stC fun _ _ => ?_ | refine Ev.sc (by omega) ?_ | refine Ev.scg (by omega) ?_)
    refine Ev.prim (orQ ⟨f1, f2⟩) ?_
    rw [Nat.or_comm, or_add (show xs.getD m 0 < 2 ^ 32 from hx), f3]
    refine Ev.prim (quoQ ⟨by omega, f4⟩) ?_
    refine Ev.prim (toU32 Uq Uw) ?_
    have hb := hb_fact hr hx
    have hq : (r * 4294967296 + xs.getD m 0) / d < 4294967296 := Nat.div_lt_of_lt_mul hb
    rw [Nat.mod_eq_of_lt hq]
    refine Ev.prim (ixA_own Ew (by omega)) ?_
    refine Ev.stW Ew hS (by (first | exact .head _ | exact .tail _ (.head _) | exact .tail _ (.tail _ (.head _)) | exact .tail _ (.tail _ (.tail _ (.head _))) | exact .tail _ (.tail _ (.tail _ (.tail _ (.head _)))))) (j := m) (by omega) (by omega) rfl (by simp) (.head _) fun H1 hS1 => ?_
    refine Ev.prim (remN (by omega)) ?_
    refine Ev.prim (bin_sub64 (by omega)) ?_
    refine ih _ _ H1 (by omega) (by simp [hz]) (hsm.set _ hq) (Nat.mod_lt _ (by omega)) ?_ hS1
    rw [List.drop_set, if_neg (by omega), Nat.sub_self, List.drop_eq_getElem_cons (by omega), List.drop_eq_getElem_cons (l := zs) (by omega), List.set_cons_zero, val, val, hv]
    have e := Nat.div_add_mod (r * 4294967296 + xs.getD m 0) d
    rw [List.getD_eq_getElem?_getD, List.getElem?_eq_getElem (by omega)] at e ⊢
    simp only [Option.getD_some] at e ⊢
    generalize (r * 4294967296 + xs[m]) / d = q1 at *
    generalize (r * 4294967296 + xs[m]) % d = q2 at *
    rw [Nat.mul_add d, Nat.mul_left_comm d]
    omega
theorem rshort_spec {B H : AH} {xs : List Nat} {a : Value} {d : Nat} (hd : d < 4294967296) (hd0 : d ≠ 0) (hm : xs.length < 1000000) [ha : RdT B a xs] (hL : Le B H) :
    Ev (fun k _ => rn k 116 [a, u64 d] H) (An B H fun B' v => ∃ q r, v = .tuple #[q, r] ∧ RdN B' q (limbs (val xs / d)) ∧ RdN B' r (limbs (val xs % d))) := by
  refine Ev.fn (fun k => f116_eq k _ _ H) ?_
  have hS := St.start hL
  have ha := ha.rd
  repeat (first | refine Ev.s ?_ | refine Ev.newC fun _ _ _ => ?_ | refine Ev.boxC fun _ _ _ => ?_ | refine Ev.stC fun _ _ => ?_ | refine Ev.sc (by omega) ?_ | refine Ev.scg (by omega) ?_)
  refine Ev.mkS Ew hS (by omega) (by omega) fun bo B1 H1 hm1 hS1 => ?_
  rw [map_replicate] at hS1
  have ha1 := ha.mono hm1
  repeat (first | refine Ev.s ?_ | refine Ev.newC fun _ _ _ => ?_ | refine Ev.boxC fun _ _ _ => ?_ | refine Ev.stC fun _ _ => ?_ | refine Ev.sc (by omega) ?_ | refine Ev.scg (by omega) ?_)
  refine Ev.prim (bin_sub64 (by omega)) ?_
  refine Ev.bind (Ev.loop (rshort_loop ha1 (d := d) hd (by omega) xs.length (List.replicate xs.length 0) 0 H1 (by omega) (by simp) (small_replicate _) (by omega) (by simp [val]) hS1)) ?_
  rintro _ ⟨zs, r, H2, rfl, hz, hsm, hr, hv, hS2⟩
  refine Ev.eq (fun k _ => f116_A0_x0 k _ _ H2) ?_
  obtain ⟨B4, hm4, hr4, hS4⟩ := hS2.freezeN (n := xs.length) (cap := xs.length) hsm hz.symm (by omega)
  refine Ev.callD (rTrim_spec (xs := zs) (by omega)) fun v B5 H5 hm5 hS5 h5 => ?_
  refine Ev.callD (rFrom_spec (n := r) (by omega)) fun v2 B6 H6 hm6 hS6 h6 => ?_
  refine Ev.doneC ⟨v, v2, rfl, ?_, ?_⟩
  · rw [hv, Nat.mul_comm, Nat.add_comm, Nat.add_mul_div_right _ _ (by omega), Nat.div_eq_of_lt hr, Nat.zero_add]
    exact h5.mono hm6.mo
  · rw [hv, Nat.mul_add_mod, Nat.mod_eq_of_lt hr]
    exact h6
theorem guess_over {p X Y xl h yl vt : Nat} (hX : X = xl + p * h) (hY : Y = yl + p * vt) (hxl : xl < p) (hvt : 0 < vt) : X / Y ≤ h / vt := by
  have hp : 0 < p := by omega
  have h1 : X / Y * Y ≤ X := Nat.div_mul_le_self X Y
  generalize X / Y = q at *
  rw [Nat.le_div_iff_mul_le hvt]
  rw [hX, hY, Nat.mul_add, Nat.mul_left_comm] at h1
  have h2 : p * (q * vt) < p * (h + 1) := by rw [Nat.mul_add p h 1, Nat.mul_one]; omega
  exact Nat.le_of_lt_succ (Nat.lt_of_mul_lt_mul_left h2)
theorem rguess_spec {B H : AH} {xs ys : List Nat} {a b : Value} {n : Nat} (hm : xs.length < 1000000) (hn : ys.length = n + 1) (hn2 : n < 100000) (ht : ys.getD n 0 ≠ 0) (hl : xs.length ≤ ys.length + 1) (hq : val xs < 4294967296 * val ys) [ha : RdT B a xs] [hb : RdT B b ys] (hL : Le B H) :
    Ev (fun k _ => rn k 117 [a, b] H) (Pu H fun v => ∃ g, v = u64 g ∧ g < 4294967296 ∧ val xs / val ys ≤ g) := by
  refine Ev.fn (fun k => f117_eq k _ _ H) ?_
  have hS := St.start hL
  have ha := ha.rd
  have hb := hb.rd
  have ylo : val ys = val (ys.take n) + 4294967296 ^ n * ys.getD n 0 := by
    rw [← val_take_succ', List.take_of_length_le (by omega)]
  have hqb : val xs / val ys < 4294967296 := Nat.div_lt_of_lt_mul (by rw [Nat.mul_comm]; exact hq)
  have hvt := hb.sm.getD n
  have fin : ∀ h : Nat, h < 18446744073709551616 → val xs / val ys ≤ h / ys.getD n 0 → Ev (fun k _ => f117_J0 k b (i64 (n + 1)) (u64 h) H) (Pu H fun v => ∃ g, v = u64 g ∧ g < 4294967296 ∧ val xs / val ys ≤ g) := by
    intro h hh hle
    refine Ev.eq (fun k _ => f117_J0_eq k _ _ _ _) ?_
    repeat (first | refine Ev.s ?_ | refine Ev.newC fun _ _ _ => ?_ | refine Ev.boxC fun _ _ _ => ?_ | refine Ev.stC fun _ _ => ?_ | refine Ev.sc (by omega) ?_ | refine Ev.scg (by omega) ?_)
    refine Ev.ixC n (by simp) (by omega) fun p hp => ?_
    repeat (first | refine Ev.s ?_ | refine Ev.newC fun _ _ _ => ?_ | refine Ev.boxC fun _ _ _ => ?_ | refine Ev.stC fun _ _ => ?_ | refine Ev.sc (by omega) ?_ | refine Ev.scg (by omega) ?_)
    refine Ev.prim (quoQ ⟨ht, hh⟩) ?_
    repeat (first | refine Ev.s ?_ | refine Ev.newC fun _ _ _ => ?_ | refine Ev.boxC fun _ _ _ => ?_ | refine Ev.stC fun _ _ => ?_ | refine Ev.sc (by omega) ?_ | refine Ev.scg (by omega) ?_)
    refine Ev.doneU ⟨min (h / ys.getD n 0) 4294967295, ?_, by omega, by omega⟩
    congr 1
    split <;> omega
  repeat (first | refine Ev.s ?_ | refine Ev.newC fun _ _ _ => ?_ | refine Ev.boxC fun _ _ _ => ?_ | refine Ev.stC fun _ _ => ?_ | refine Ev.sc (by omega) ?_ | refine Ev.scg (by omega) ?_)
  by_cases h1 : xs.length < ys.length
  · rw [decide_eq_true h1]
    repeat (first | refine Ev.s ?_ | refine Ev.newC fun _ _ _ => ?_ | refine Ev.boxC fun _ _ _ => ?_ | refine Ev.stC fun _ _ => ?_ | refine Ev.sc (by omega) ?_ | refine Ev.scg (by omega) ?_)
    refine Ev.doneU ⟨0, rfl, by decide, ?_⟩
    have hx1 : val xs < 4294967296 ^ n := Nat.lt_of_lt_of_le (val_lt ha.sm) (Nat.pow_le_pow_right (by decide) (by omega))
    have : val xs < val ys := by
      have := Nat.le_mul_of_pos_right (4294967296 ^ n) (show 0 < ys.getD n 0 by omega)
      omega
    rw [Nat.div_eq_of_lt this]; exact Nat.le_refl 0
  rw [decide_eq_false h1, hn]
  have hx := ha.sm.getD n
  repeat (first | refine Ev.s ?_ | refine Ev.newC fun _ _ _ => ?_ | refine Ev.boxC fun _ _ _ => ?_ | refine Ev.stC fun _ _ => ?_ | refine Ev.sc (by omega) ?_ | refine Ev.scg (by omega) ?_)
  refine Ev.ixC n (by simp) (by omega) fun p hp => ?_
  repeat (first | refine Ev.s ?_ | refine Ev.newC fun _ _ _ => ?_ | refine Ev.boxC fun _ _ _ => ?_ | refine Ev.stC fun _ _ => ?_ | refine Ev.sc (by omega) ?_ | refine Ev.scg (by omega) ?_)
  have xlt := val_lt (ha.sm.take n)
  rw [List.length_take, Nat.min_eq_left (by omega)] at xlt
  by_cases h2 : n + 1 < xs.length
  · rw [decide_eq_true (by omega)]
    have hx2 := ha.sm.getD (n + 1)
    repeat (first | refine Ev.s ?_ | refine Ev.newC fun _ _ _ => ?_ | refine Ev.boxC fun _ _ _ => ?_ | refine Ev.stC fun _ _ => ?_ | refine Ev.sc (by omega) ?_ | refine Ev.scg (by omega) ?_)
    refine Ev.ixC (n + 1) (by simp) (by omega) fun p hp => ?_
    repeat (first | refine Ev.s ?_ | refine Ev.newC fun _ _ _ => ?_ | refine Ev.boxC fun _ _ _ => ?_ | refine Ev.stC fun _ _ => ?_ | refine Ev.sc (by omega) ?_ | refine Ev.scg (by omega) ?_)
    refine Ev.prim (shlQL ⟨by decide, by omega⟩) ?_
    refine Ev.prim (orQ ⟨by omega, by omega⟩) ?_
    rw [or_add (by omega)]
    refine fin _ (by omega) (guess_over (p := 4294967296 ^ n) (xl := val (xs.take n)) ?_ ylo xlt (by omega))
    have e1 := val_take_succ' xs n
    have e2 := val_take_succ' xs (n + 1)
    rw [List.take_of_length_le (by omega), e1, Nat.pow_succ] at e2
    rw [e2, Nat.mul_add, show (2 : Nat) ^ 32 = 4294967296 by decide]
    simp only [Nat.mul_assoc, Nat.mul_left_comm, Nat.mul_comm, Nat.add_assoc]
  · rw [decide_eq_false (by omega)]
    repeat (first | refine Ev.s ?_ | refine Ev.newC fun _ _ _ => ?_ | refine Ev.boxC fun _ _ _ => ?_ | refine Ev.stC fun _ _ => ?_ | refine Ev.sc (by omega) ?_ | refine Ev.scg (by omega) ?_)
    refine fin _ (by omega) (guess_over (p := 4294967296 ^ n) (xl := val (xs.take n)) ?_ ylo xlt (by omega))
    rw [← val_take_succ', List.take_of_length_le (by omega)]
end Go.AM.Y
set_option linter.unusedVariables false
set_option linter.unusedSimpArgs false
set_option maxRecDepth 100000
namespace Go.AM.Y
open Go Go.AM Go.Proofs
attribute [local irreducible] run bin un ld st box newV mkS fldA fld ixA ix slc slc3 build buildS cv cvS ap cpy lenV gOp pickV b2 aIf aChk evalK resume iterD Option.bind

/-- One digit, and digits behind it. -/
theorem Ev.bsAp {R : Type} {H0 B0 B : AH} {L : List (Nat × Blk)} {H : AH} {v : Value} {xs : List Nat} {d : Nat} {f : Nat → Nat → Value → AH → Option R} {Q : R → Prop} (hS : St H0 B0 B L H) (hr : RdN B v xs) (hd : d < 4294967296) (hl : xs.length < 1000000000)
    (hk : ∀ w B' H', MoC B B' → St H0 B0 B' L H' → RdN B' w (d :: xs) → Ev (fun k n => f k n w H') Q) :
    Ev (fun k n => Go.AM.b2 (Go.AM.buildS Try.prog 22 H 1 [(0, u32 d)]) fun w h => Go.AM.b2 (Go.AM.ap Try.prog 22 22 h w v) (f k n)) Q := by
  refine Ev.bsC (P := Try.prog) (t := 22) (by decide) fun bw H1 hS1 => ?_
  have hx : Sc H1 v (xs.map u32) := hr.1.up hS1.le
  have hsm : small (d :: xs) := fun y hy => by
    rcases List.mem_cons.mp hy with rfl | h
    · exact hd
    · exact hr.sm y h
  by_cases h0 : xs = []
  · subst h0
    refine Ev.apNone Ew Ew.U (.inr ⟨bw, 0, 1, 1, rfl⟩) hx ?_
    obtain ⟨B', h1, h2, h3⟩ := St.freezeN (xs := [d]) (n := 1) (cap := 1) hS1 hsm rfl (Nat.le_refl 1)
    exact hk _ B' H1 ⟨h1⟩ h3 h2
  · have hx0 : xs.map u32 ≠ [] := by simpa using h0
    have h2 := Ev.apFull (b := bw) (cs := [d].map u32) (v := v) (ds := xs.map u32) (f := f) (Q := Q) Ew Ew.U hS1 (hS1.get (.head _)) (by simp) hx (all_u32 _) hx0 (by simp; omega) (fun b' B' H' hm hS' => by
      have e : ([d].map u32 ++ xs.map u32) = (d :: xs).map u32 := rfl
      rw [e] at hS' ⊢
      rw [List.length_map]
      obtain ⟨B2, h1, h2, h3⟩ := St.freezeN (xs := d :: xs) (n := (d :: xs).length) (cap := (d :: xs).length + 1) hS' hsm rfl (by omega)
      exact hk _ B2 H' ⟨hm.trans h1⟩ h3.drop1 h2)
    exact h2
theorem rdm_inner {H0 B0 : AH} {L : List (Nat × Blk)} {ys : List Nat} {b s10 s11 s13 rv : Value} {r : Nat} {s15 : Value} (hy : ys.length < 200000) (hlr : (limbs r).length < 1000000) (hy0 : 0 < val ys) :
    ∀ (g : Nat) (dv : Value) (ok : Bool) (B H : AH), g < 4294967296 → r / val ys ≤ g → RdN B b ys → RdN B rv (limbs r) → (ok = true ∧ val ys * g ≤ r ∧ RdN B dv (limbs (r - val ys * g)) ∨ ok = false ∧ r < val ys * g) → St H0 B0 B L H →
    Ev (fun k n => f70_L1 k b s10 s11 s13 rv s15 (u64 g) dv (.bool ok) n H)
      (fun o => ∃ dv B' H', o = (.exit 2, f70_X_L1 b s10 s11 s13 s15 (u64 (r / val ys)) dv, H') ∧ Mo B B' ∧ RdN B' dv (limbs (r % val ys)) ∧ St H0 B0 B' L H') := by
  intro g
  induction g with
  | zero =>
    intro dv ok B H hg hq hb hr hd hS
    have h00 : val ys * 0 = 0 := Nat.mul_zero _
    rcases hd with ⟨rfl, h1, h2⟩ | ⟨rfl, h1⟩
    · refine Ev.succ (fun k n => f70_L1_succ k _ _ _ _ _ _ _ _ _ n H) ?_
      repeat (first | refine Ev.s ?_ | refine Ev.newC fun _ _ _ => ?_ | refine Ev.boxC fun _ _ _ => ?_ | refine Ev.stC fun _ _ => ?_ | refine Ev.sc (by omega) ?_ | refine Ev.scg (by omega) ?_)
      have e : r / val ys = 0 := Nat.le_zero.mp hq
      have e2 : r % val ys = r - val ys * 0 := by
        have := Nat.div_add_mod r (val ys)
        rw [e, h00] at this; omega
      exact Ev.ret ⟨dv, B, H, by rw [e], Mo.refl B, by rw [e2]; exact h2, hS⟩
    · omega
  | succ g ih =>
    intro dv ok B H hg hq hb hr hd hS
    rcases hd with ⟨rfl, h1, h2⟩ | ⟨rfl, h1⟩
    · refine Ev.succ (fun k n => f70_L1_succ k _ _ _ _ _ _ _ _ _ n H) ?_
      repeat (first | refine Ev.s ?_ | refine Ev.newC fun _ _ _ => ?_ | refine Ev.boxC fun _ _ _ => ?_ | refine Ev.stC fun _ _ => ?_ | refine Ev.sc (by omega) ?_ | refine Ev.scg (by omega) ?_)
      have e : r / val ys = g + 1 := by
        have := (Nat.le_div_iff_mul_le hy0).mpr (by rw [Nat.mul_comm]; exact h1)
        omega
      have e2 : r % val ys = r - val ys * (g + 1) := by
        have := Nat.div_add_mod r (val ys)
        rw [e] at this; omega
      exact Ev.ret ⟨dv, B, H, by rw [e], Mo.refl B, by rw [e2]; exact h2, hS⟩
    · refine Ev.succ (fun k n => f70_L1_succ k _ _ _ _ _ _ _ _ _ n H) ?_
      repeat (first | refine Ev.s ?_ | refine Ev.newC fun _ _ _ => ?_ | refine Ev.boxC fun _ _ _ => ?_ | refine Ev.stC fun _ _ => ?_ | refine Ev.sc (by omega) ?_ | refine Ev.scg (by omega) ?_)
      refine Ev.prim (subQ (b := 1) ⟨by omega, by omega⟩) ?_
      rw [show g + 1 - 1 = g by omega]
      have hq2 : r / val ys ≤ g := by
        have := Nat.div_lt_of_lt_mul h1
        omega
      have hgl : (limbs g).length ≤ 1 := limbs_length_le (by omega)
      have hml : (limbs (val ys * g)).length ≤ ys.length + 1 := by
        refine limbs_length_le ?_
        rw [Nat.pow_succ]
        exact Nat.mul_lt_mul'' (val_lt hb.sm) (by omega)
      refine Ev.callD (rFrom_spec (n := g) (by omega)) fun w1 B1 H1 hm1 hS1 hw1 => ?_
      refine Ev.callD (rMul_spec (xs := ys) (ys := limbs g) (by omega) (by omega)) fun w2 B2 H2 hm2 hS2 hw2 => ?_
      rw [val_limbs] at hw2
      refine Ev.callD (rSub_spec (xs := limbs r) (ys := limbs (val ys * g)) (by omega) (by omega)) fun w3 B3 H3 hm3 hS3 hw3 => ?_
      rw [val_limbs, val_limbs] at hw3
      have hmm := (hm1.mo.trans hm2.mo).trans hm3.mo
      rcases hw3 with ⟨hlt, rfl⟩ | ⟨hge, d, rfl, hd⟩
      · repeat (first | refine Ev.s ?_ | refine Ev.newC fun _ _ _ => ?_ | refine Ev.boxC fun _ _ _ => ?_ | refine Ev.stC fun _ _ => ?_ | refine Ev.sc (by omega) ?_ | refine Ev.scg (by omega) ?_)
        refine (ih _ false B3 H3 (by omega) hq2 (hb.mono hmm) (hr.mono hmm) (.inr ⟨rfl, hlt⟩) hS3).mono ?_
        rintro o ⟨dv, B', H', q1, q2, q3, q4⟩
        exact ⟨dv, B', H', q1, hmm.trans q2, q3, q4⟩
      · repeat (first | refine Ev.s ?_ | refine Ev.newC fun _ _ _ => ?_ | refine Ev.boxC fun _ _ _ => ?_ | refine Ev.stC fun _ _ => ?_ | refine Ev.sc (by omega) ?_ | refine Ev.scg (by omega) ?_)
        refine (ih _ true B3 H3 (by omega) hq2 (hb.mono hmm) (hr.mono hmm) (.inl ⟨rfl, hge, hd⟩) hS3).mono ?_
        rintro o ⟨dv, B', H', q1, q2, q3, q4⟩
        exact ⟨dv, B', H', q1, hmm.trans q2, q3, q4⟩
theorem rdm_step {u r' Y q z R : Nat} {us zs : Nat} (hv : us = Y * zs + R) (hd : r' = Y * q + z) (hr : r' = u + 4294967296 * R) : u + 4294967296 * us = Y * (q + 4294967296 * zs) + z := by
  rw [hv, Nat.mul_add, Nat.mul_add, Nat.mul_left_comm Y, hd] at *
  omega
theorem rdm_loop {H0 B0 : AH} {us ys : List Nat} {a b s10 : Value} {bo n : Nat} (hn : ys.length = n + 1) (hn2 : n < 100000) (ht : ys.getD n 0 ≠ 0) (hlen : us.length < 900000) :
    ∀ (m : Nat) (zs : List Nat) (r : Nat) (rv : Value) (B H : AH), m ≤ us.length → zs.length = us.length → small zs → r < val ys → val (us.drop m) = val ys * val (zs.drop m) + r →
    RdN B a us → RdN B b ys → RdN B rv (limbs r) → St H0 B0 B [(bo, ⟨zs.map u32, 67, .fix⟩)] H →
    Ev (fun k n => f70_L0 k b s10 a (sl bo 0 us.length us.length) rv (.int .i64 ((m : Int) - 1)) n H)
      (fun o => ∃ zs r rv B' H', o = (.exit 0, f70_X_L0 s10 (sl bo 0 us.length us.length) rv, H') ∧ zs.length = us.length ∧ small zs ∧ r < val ys ∧ val us = val ys * val zs + r ∧ RdN B' rv (limbs r) ∧ Mo B B' ∧ St H0 B0 B' [(bo, ⟨zs.map u32, 67, .fix⟩)] H') := by
  intro m
  induction m with
  | zero =>
    intro zs r rv B H hm hz hsm hr hv ha hb hrv hS
    refine Ev.succ (fun k n => f70_L0_succ k _ _ _ _ _ _ n H) ?_
    repeat (first | refine Ev.s ?_ | refine Ev.newC fun _ _ _ => ?_ | refine Ev.boxC fun _ _ _ => ?_ | refine Ev.stC fun _ _ => ?_ | refine Ev.sc (by omega) ?_ | refine Ev.scg (by omega) ?_)
    rw [decide_eq_false (by omega)]
    repeat (first | refine Ev.s ?_ | refine Ev.newC fun _ _ _ => ?_ | refine Ev.boxC fun _ _ _ => ?_ | refine Ev.stC fun _ _ => ?_ | refine Ev.sc (by omega) ?_ | refine Ev.scg (by omega) ?_)
    exact Ev.ret ⟨zs, r, rv, B, H, rfl, hz, hsm, hr, hv, hrv, Mo.refl B, hS⟩
  | succ m ih =>
    intro zs r rv B H hm hz hsm hr hv ha hb hrv hS
    refine Ev.succ (fun k n => f70_L0_succ k _ _ _ _ _ _ n H) ?_
    have e : ((m + 1 : Nat) : Int) - 1 = (m : Int) := by omega
    rw [e]
    have hx := ha.sm.getD m
    have hry : val ys < 4294967296 ^ (n + 1) := by rw [← hn]; exact val_lt hb.sm
    have hrl : (limbs r).length ≤ n + 1 := limbs_length_le (Nat.lt_trans hr hry)
    repeat (first | refine Ev.s ?_ | refine Ev.newC fun _ _ _ => ?_ | refine Ev.boxC fun _ _ _ => ?_ | refine Ev.stC fun _ _ => ?_ | refine Ev.sc (by omega) ?_ | refine Ev.scg (by omega) ?_)
    rw [decide_eq_true (by omega)]
    repeat (first | refine Ev.s ?_ | refine Ev.newC fun _ _ _ => ?_ | refine Ev.boxC fun _ _ _ => ?_ | refine Ev.stC fun _ _ => ?_ | refine Ev.sc (by omega) ?_ | refine Ev.scg (by omega) ?_)
    refine Ev.ixC m rfl (by omega) fun p hp => ?_
    repeat (first | refine Ev.s ?_ | refine Ev.newC fun _ _ _ => ?_ | refine Ev.boxC fun _ _ _ => ?_ | refine Ev.stC fun _ _ => ?_ | refine Ev.sc (by omega) ?_ | refine Ev.scg (by omega) ?_)
    refine Ev.bsAp inferInstance hrv hx (by omega) fun w B1 H1 hm1 hS1 hw => ?_
    refine Ev.callD (rTrim_spec (xs := us.getD m 0 :: limbs r) (by simp; omega)) fun w2 B2 H2 hm2 hS2 hw2 => ?_
    have ev : val (us.getD m 0 :: limbs r) = us.getD m 0 + 4294967296 * r := by rw [val, val_limbs]
    rw [ev] at hw2
    obtain ⟨r', hr'⟩ : ∃ r', r' = us.getD m 0 + 4294967296 * r := ⟨_, rfl⟩
    rw [← hr'] at hw2
    have hlt : r' < 4294967296 * val ys := by rw [hr', Nat.mul_comm, Nat.mul_comm _ (val ys), Nat.add_comm]; exact hb_fact hr hx
    have hl2 : (limbs r').length ≤ n + 2 := by
      refine limbs_length_le ?_
      have h3 : 4294967296 * val ys < 4294967296 * 4294967296 ^ (n + 1) := Nat.mul_lt_mul_of_pos_left hry (by decide)
      rw [Nat.pow_succ 4294967296 (n + 1), Nat.mul_comm (4294967296 ^ (n + 1))]
      exact Nat.lt_trans hlt h3
    have hb2 := hb.mono (hm1.mo.trans hm2.mo)
    refine Ev.callU (rguess_spec (xs := limbs r') (ys := ys) (n := n) (by omega) hn hn2 ht (by omega) (by rw [val_limbs]; exact hlt) hS2.lel) ?_
    rintro _ ⟨g, rfl, hg1, hg2⟩
    rw [val_limbs] at hg2
    have hgl : (limbs g).length ≤ 1 := limbs_length_le (by omega)
    have hml : (limbs (val ys * g)).length ≤ ys.length + 1 := by
      refine limbs_length_le ?_
      rw [Nat.pow_succ]
      exact Nat.mul_lt_mul'' (val_lt hb.sm) (by omega)
    refine Ev.callD (rFrom_spec (n := g) (by omega)) fun w3 B3 H3 hm3 hS3 hw3 => ?_
    refine Ev.callD (rMul_spec (xs := ys) (ys := limbs g) (by omega) (by omega)) fun w4 B4 H4 hm4 hS4 hw4 => ?_
    rw [val_limbs] at hw4
    refine Ev.callD (rSub_spec (xs := limbs r') (ys := limbs (val ys * g)) (by omega) (by omega)) fun w5 B5 H5 hm5 hS5 hw5 => ?_
    rw [val_limbs, val_limbs] at hw5
    have hmm := (hm3.mo.trans hm4.mo).trans hm5.mo
    have hy0 : 0 < val ys := by omega
    have hql : r' / val ys < 4294967296 := Nat.div_lt_of_lt_mul (by rw [Nat.mul_comm]; exact hlt)
    have fin : ∀ (dv : Value) (ok : Bool), (ok = true ∧ val ys * g ≤ r' ∧ RdN B5 dv (limbs (r' - val ys * g)) ∨ ok = false ∧ r' < val ys * g) →
        Ev (fun k n => (f70_L1 k b s10 a (sl bo 0 us.length us.length) w2 (i64 m) (u64 g) dv (.bool ok) k H5).bind fun p => f70_A1 k n p.1 p.2.1 p.2.2)
          (fun o => ∃ zs r rv B' H', o = (.exit 0, f70_X_L0 s10 (sl bo 0 us.length us.length) rv, H') ∧ zs.length = us.length ∧ small zs ∧ r < val ys ∧ val us = val ys * val zs + r ∧ RdN B' rv (limbs r) ∧ Mo B B' ∧ St H0 B0 B' [(bo, ⟨zs.map u32, 67, .fix⟩)] H') := by
      intro dv ok hd
      refine Ev.bind (Ev.loop (rdm_inner (ys := ys) (r := r') (by omega) (by omega) hy0 g dv ok B5 H5 hg1 hg2 (hb2.mono hmm) (hw2.mono hmm) hd hS5)) ?_
      rintro _ ⟨dv, B6, H6, rfl, hm6, hdv, hS6⟩
      refine Ev.eq (fun k n => f70_A1_x2 k n _ _ _ _ _ _ _ H6) ?_
      refine Ev.prim (toU32 Uq Uw) ?_
      rw [Nat.mod_eq_of_lt hql]
      refine Ev.prim (ixA_own Ew (by omega)) ?_
      refine Ev.stW Ew hS6 (by (first | exact .head _ | exact .tail _ (.head _) | exact .tail _ (.tail _ (.head _)) | exact .tail _ (.tail _ (.tail _ (.head _))) | exact .tail _ (.tail _ (.tail _ (.tail _ (.head _)))))) (j := m) (by omega) (by omega) rfl (by simp) (.head _) fun H7 hS7 => ?_
      refine Ev.prim (bin_sub64 (by omega)) ?_
      have hall := (hm1.mo.trans hm2.mo).trans (hmm.trans hm6)
      refine (ih _ (r' % val ys) dv B6 H7 (by omega) (by simp [hz]) (hsm.set _ hql) (Nat.mod_lt _ hy0) ?_ (ha.mono hall) (hb.mono hall) hdv hS7).mono ?_
      · rw [List.drop_set, if_neg (by omega), Nat.sub_self, List.drop_eq_getElem_cons (by omega), List.drop_eq_getElem_cons (l := zs) (by omega), List.set_cons_zero, val, val]
        have e1 := Nat.div_add_mod r' (val ys)
        have e2 : us[m] = us.getD m 0 := by rw [List.getD_eq_getElem?_getD, List.getElem?_eq_getElem (by omega)]; rfl
        rw [e2]
        exact rdm_step hv e1.symm hr'
      · rintro o ⟨zs, r, rv, B', H', q1, q2, q3, q4, q5, q6, q7, q8⟩
        exact ⟨zs, r, rv, B', H', q1, q2, q3, q4, q5, q6, hall.trans q7, q8⟩
    rcases hw5 with ⟨hlt5, rfl⟩ | ⟨hge5, d, rfl, hd5⟩
    · repeat (first | refine Ev.s ?_ | refine Ev.newC fun _ _ _ => ?_ | refine Ev.boxC fun _ _ _ => ?_ | refine Ev.stC fun _ _ => ?_ | refine Ev.sc (by omega) ?_ | refine Ev.scg (by omega) ?_)
      exact fin _ false (.inr ⟨rfl, hlt5⟩)
    · repeat (first | refine Ev.s ?_ | refine Ev.newC fun _ _ _ => ?_ | refine Ev.boxC fun _ _ _ => ?_ | refine Ev.stC fun _ _ => ?_ | refine Ev.sc (by omega) ?_ | refine Ev.scg (by omega) ?_)
      exact fin _ true (.inl ⟨rfl, hge5, hd5⟩)
end Go.AM.Y
